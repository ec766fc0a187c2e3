/- DescFeeds: part 3 of 4 of the proof. -/
import Derived.Test.YtnpidpcmpleiaaaDoorZDescFeedsb
import Derived.KernelRfl
import Derived.ChangeArms
import Derived.Deep.Slices
import Derived.ChangeOld
import Derived.WideShapes
import Derived.FnData
import Derived.MakeChecks
import Derived.LaidMore
import Derived.OpenShut
import Derived.Sort.AssemblyPlain
set_option maxRecDepth 100000
set_option maxHeartbeats 40000000
namespace Go.Proofs.YtnpidpcmpleiaaaDoorE
open Go
set_option linter.unusedVariables false
set_option linter.unusedSimpArgs false
theorem ZnP {e e':Env}:∀(g:Option (Nat×Bool)),(∀s b,g=some (s,b)→e s=e' s)→Zeb e g=Zeb e' g
 | none,_=>rfl
 | some (s,b),h=>by simp only[Zeb,h s b rfl]
section
variable {P:Program} {G:Za9} {N:Nat} {Γ:Ctx} {cf:ZaY} {t:Zcc} {l:List Op1} {e:Env} {H:Zi} {e':Env} {H':Zi} {os:Array Oper} {B:Nat→Nat→Prop} {Rf:RP} {wf:World}
structure ZpJ (P:Program) (N:Nat) (t:Zcc) (l:List Op1) (os:Array Oper) (e:Env) (H:Zi) (Rf:RP) (wf:World) (D:Nat→Bool) (a:Act) (w:World):Prop where
 closed:Zkp os D
 ex:∃K R env,K≤l.length∧(∀m p,l[m]? = some p→m<K→3≤Zaw p→D m=true)∧(K<l.length→∃p,l[K]? = some p∧3≤Zaw p∧D K=false) ∧
  Ext Rf wf R w∧R.OK w∧R.H=Zgb t D K∧(∀i,H.length≤i→(∀j,j<l.length→D j=true→¬(t.len j≤i∧i<t.len (j+1)))→R.M i=none)∧Zfv R w env a ∧
  (∀j p d,l[j]? = some p→p.dst=some d→D j=true→env d=t.VV j)∧(∀d,(∀j p,l[j]? = some p→p.dst=some d→D j=false)→env d=e d)
 tm:N≤a.tmps.size
 df:a.defers=[]
theorem Zqt (ht:t.OK Γ cf [] l e H e' H') {D:Nat→Bool}{s:Nat}{R:RP}{w:World} (hs:s≤l.length) (ok:R.OK w) (hH:R.H=t.HH s) (hb:∀m p,l[m]? = some p→m<s→2≤Zaw p→D m=true) (ha:∀m p,l[m]? = some p→s≤m→2≤Zaw p→D m=false) :
  ∃K,K≤l.length∧(∀m p,l[m]? = some p→m<K→3≤Zaw p→D m=true)∧(K<l.length→∃p,l[K]? = some p∧3≤Zaw p∧D K=false)∧Ext R w { R with H:=Zgb t D K } w∧RP.OK { R with H:=Zgb t D K } w:=by
 obtain⟨K,h1,h2,h3,h4⟩:=Zrx l s hs
 have live:∀(i:Nat) blk,(Zgb t D K)[i]? = some blk→blk ≠ .dead→R.H[i]? = some blk:=fun i blk h hd=>by
  obtain⟨g1,g2⟩:=ZoA h hd
  rw[Zg0] at g2
  have hiK:i<t.len K:=(List.getElem?_eq_some_iff.1 g1).1
  by_cases hi:i<t.len s
  ·rw[hH,← ht.stay K h1 h2 h3 i hi];exact g1
  ·obtain⟨j,f1,f2,f3,f4⟩:=ht.whose K h1 h2 (by omega) hiK
   have hp:l[j]? = some (l[j]'(by omega)):=List.getElem?_eq_getElem (by omega)
   have d1:=ha j _ hp f1 (ht.new2 hp ⟨f3,f4⟩)
   rw[g2 j f2 f3 f4] at d1;cases d1
 refine⟨K,h2,fun m p hp hm hc=>?_,fun hK=>?_,Ext.kill live,ok.kill live⟩
 ·rcases Nat.lt_or_ge m s with h | h
  ·exact hb m p hp h (by omega)
  ·have:=h3 m p h hm hp;omega
 ·obtain⟨p,f1,f2⟩:=h4 hK
  exact⟨p,f1,f2,ha K p f1 h1 (by omega)⟩
def upd (D:Nat→Bool) (j:Nat):Nat→Bool:=fun i=>if i=j then true else D i
theorem Zav (c:ZhN P G cf Rf wf) (hlo:Rf.H.length≤H.length) (ht:t.OK Γ cf [] l e H e' H') (hk:Chk P G N os l B) {Q:Exit→Act→World→Prop}{D:Nat→Bool}{a:Act}{w:World} (s:ZpJ P N t l os e H Rf wf D a w) {j:Nat}{o:Oper} (ho:os[j]? = some o) (hDj:D j=false) (hpre:∀i∈ZjG o,D i=true) :
  wpOp P os Q j (fun a' w'=>ZpJ P N t l os e H Rf wf (upd D j) a' w') a w:=by
 obtain⟨K,R,env,hK,hKd,hKn,x,ok,hH,hM,hE,hV,hO⟩:=s.ex
 have hjl:j<l.length:=by rw[← hk.len];exact(Array.getElem?_eq_some_iff.1 ho).1
 obtain⟨p,hp⟩:∃p,l[j]? = some p:=⟨_,List.getElem?_eq_getElem hjl⟩
 have hoper:=hk.oper j o p ho hp
 simp only[ZlC,Bool.and_eq_true] at hoper
 obtain⟨k1,k2,k3⟩:=hoper
 have down:∀i,B i j→D i=true:=fun i hb=>hk.down s.closed j i o ho hpre hb
 have downD:∀i k,k<l.length→D k=true→B i k→D i=true:=fun i k h1 h2 h3=>hk.downD s.closed h1 h2 h3
 have slot:∀d,d∈ZcH p→env d=t.E j d:=fun d hd=>by
  by_cases hx:∃(i:Nat) (q:Op1),l[i]? = some q∧q.dst=some d
  ·obtain⟨i,q,hq,hqd⟩:=hx
   have old:j≤i→D i=false→env d=t.E j d:=fun hji hDi=>by
    rw[hO d fun i' q' hq' hqd'=>by rw[hk.dst i' i q' q d hq' hq hqd' hqd];exact hDi,ht.env0 j (by omega) fun i' q' hi' hq' hqd'=>by
     have:=hk.dst i' i q' q d hq' hq hqd' hqd;omega]
   rcases hk.reads i j q p d hq hp hqd hd with hb | hb | hb
   ·rw[hV i q d hq hqd (down i hb),ht.envd hk hq hqd j (hk.lt j i hjl hb) (by omega)]
   ·have hi:=(List.getElem?_eq_some_iff.1 hq).1
    refine old (Nat.le_of_lt (hk.lt i j hi hb)) ?_
    cases hDi:D i with
    | false=>rfl
    | true=>have:=downD j i hi hDi hb;rw[hDj] at this;cases this
   ·subst hb;exact old (Nat.le_refl _) hDj
  ·have hn:∀(i:Nat) (q:Op1),l[i]? = some q→q.dst≠some d:=fun i q hq hqd=>hx ⟨i,q,hq,hqd⟩
   rw[hO d fun i q hq hqd=>absurd hqd (hn i q hq),ht.env0 j (by omega) fun i q _ hq=>hn i q hq]
 have hg:Zeb env p.guard=some (t.W j):=by
  rw[← ht.w j p hp]
  refine ZnP _ fun s' b hs=>slot s' ?_
  unfold ZcH
  rw[hs];simp
 have hwant:=Zn8 (a:=a) hE k2 hg
 have hop:∀nid Hm,opE Γ cf env nid Hm p.op=opE Γ cf (t.E j) nid Hm p.op:=fun nid Hm=>by
  refine ZpR _ fun y hy=>?_
  cases y with
  | c v=>rfl
  | t i=>
   refine slot i ?_
   unfold ZcH
   exact List.mem_append_left _ (List.mem_filterMap.2 ⟨.t i,hy,rfl⟩)
 have closed':Zkp os (upd D j):=fun k o' hk' hd i hi=>by
  unfold upd at hd ⊢
  by_cases hik:i=j
  ·rw[if_pos hik]
  ·rw[if_neg hik]
   by_cases hkj:k=j
   ·subst hkj;rw[ho] at hk';cases hk';exact hpre i hi
   ·rw[if_neg hkj] at hd;exact s.closed k o' hk' hd i hi
 have fin:∀(K':Nat) (R':RP) (u:Value) (w':World),K'≤l.length→(∀m p,l[m]? = some p→m<K'→3≤Zaw p→upd D j m=true)→(K'<l.length→∃p,l[K']? = some p∧3≤Zaw p∧upd D j K'=false) →
   Ext R w R' w'→R'.OK w'→R'.H=Zgb t (upd D j) K'→(∀i,R.M i=none→¬(t.len j≤i∧i<t.len (j+1))→R'.M i=none)→ZaM R' w' (t.VV j) u→ZpJ P N t l os e H Rf wf (upd D j) (a.put o.dst u) w':=by
  intro K' R' u w' hK' hKd' hKn' x' ok' hH' hM' hv
  refine⟨closed',⟨K',R',Zlk env p.dst (t.VV j),hK',hKd',hKn',x.trans x',ok',hH',fun i hi hni=>?_,ZmG (x'.envOK ok.b01 hE) k1 s.tm hv,fun i q d hq hqd hd=>?_,fun d hd=>?_⟩,by rw[Zok];exact s.tm,by rw[ZoI];exact s.df⟩
  ·refine hM' i (hM i hi fun m hm hd=>hni m hm ?_) (hni j hjl ?_)
   ·unfold upd;split
    ·rfl
    ·exact hd
   ·unfold upd;rw[if_pos rfl]
  ·cases hpd:p.dst with
   | none=>
    show env d=_
    have hij:i≠j:=fun h=>by subst h;rw[hp] at hq;cases hq;rw[hpd] at hqd;cases hqd
    refine hV i q d hq hqd ?_
    unfold upd at hd;rw[if_neg hij] at hd;exact hd
   | some d'=>
    show(bif Nat.beq d' d then t.VV j else env d)=_
    cases hb:Nat.beq d' d with
    | true=>
     obtain rfl:=Nat.eq_of_beq_eq_true hb
     obtain rfl:=hk.dst i j q p d' hq hp hqd hpd
     rfl
    | false=>
     have hij:i≠j:=fun h=>by
      subst h;rw[hp] at hq;cases hq;rw[hpd] at hqd;cases hqd;rw[Nat.beq_refl] at hb;cases hb
     refine hV i q d hq hqd ?_
     unfold upd at hd;rw[if_neg hij] at hd;exact hd
  ·have h0:env d=e d:=hO d fun i q hq hqd=>by
    have:=hd i q hq hqd
    unfold upd at this
    by_cases hij:i=j
    ·rw[if_pos hij] at this;cases this
    ·rw[if_neg hij] at this;exact this
   cases hpd:p.dst with
   | none=>exact h0
   | some d'=>
    show(bif Nat.beq d' d then t.VV j else env d)=_
    cases hb:Nat.beq d' d with
    | false=>exact h0
    | true=>
     obtain rfl:=Nat.eq_of_beq_eq_true hb
     have:=hd j p hp hpd
     unfold upd at this;rw[if_pos rfl] at this;cases this
 have hlen:=ht.len_succ hjl
 have own:∀i m,m<l.length→(t.len m≤i∧i<t.len (m+1))→(t.len j≤i∧i<t.len (j+1))→m=j:=fun i m hm h1 h2=>ht.one hm hjl h1 h2
 have base:H.length≤t.len j:=by
  have:=ht.len_mono (a:=0) j (by omega) (by omega)
  unfold Zcc.len at this ⊢;rw[ht.h0] at this;exact this
 have free:∀i,t.len j≤i→i<t.len j+(t.NW j).length→R.M i=none:=fun i h1 h2=>hM i (by omega) fun m hm hd h=>by
  have:=own i m hm h ⟨h1,by omega⟩
  subst this;rw[hDj] at hd;cases hd
 rcases Nat.lt_or_ge (Zaw p) 3 with hc | hc
 ·
  have hKd':∀m p,l[m]? = some p→m<K→3≤Zaw p→upd D j m=true:=fun m p' h1 h2 h3=>by
   unfold upd;split
   ·rfl
   ·exact hKd m p' h1 h2 h3
  have hKn':K<l.length→∃p,l[K]? = some p∧3≤Zaw p∧upd D j K=false:=fun h=>by
   obtain⟨q,h1,h2,h3⟩:=hKn h
   refine⟨q,h1,h2,?_⟩
   unfold upd;rw[if_neg (fun h=>by subst h;rw[hp] at h1;cases h1;omega)];exact h3
  have two:2≤Zaw p→j<K∧∀m q,j≤m→m<K→l[m]? = some q→Zaw q≤2:=fun h2=>by
   constructor
   ·rcases Nat.lt_or_ge j K with h | h
    ·exact h
    ·obtain⟨q,g1,g2,g3⟩:=hKn (by omega)
     rcases hk.order g1 hp g2 h2 with f | f | f
     ·subst f;rw[hp] at g1;cases g1;omega
     ·rw[down K f.2] at g3;cases g3
     ·omega
   ·intro m q h3 h4 hq
    rcases Nat.lt_or_ge (Zaw q) 3 with h | h
    ·omega
    ·rcases hk.order hq hp h h2 with f | f | f
     ·subst f;rw[hp] at hq;cases hq;omega
     ·omega
     ·have:=downD j m (by omega) (hKd m q hq h4 h) f.2
      rw[hDj] at this;cases this
  have stg:∀i,(Zgb t (upd D j) K)[i]? = if t.len j≤i∧i<t.len j+(t.NW j).length then (t.NW j)[i-t.len j]? else (Zgb t D K)[i]?:=fun i=>by
   by_cases hi:t.len j≤i∧i<t.len j+(t.NW j).length
   ·rw[if_pos hi]
    have h2:=ht.new2 hp (i:=i) ⟨hi.1,by omega⟩
    obtain⟨t1,t2⟩:=two h2
    rw[ZeL]
    ·rw[ht.stay (a:=j+1) K (by omega) hK (fun m q h3 h4 hq=>t2 m q (by omega) h4 hq) i (by omega),ht.stay1 hp (by omega),List.getElem?_append_right hi.1]
     rfl
    ·rw[Zg0]
     intro m hm h3 h4
     have:=own i m (by omega) ⟨h3,h4⟩ ⟨hi.1,by omega⟩
     unfold upd;rw[if_pos this]
   ·rw[if_neg hi,Zif,Zif]
    have:hid t (upd D j) K i=hid t D K i:=by
     rw[Bool.eq_iff_iff,ZmL,ZmL]
     constructor
     ·rintro ⟨m,h1,h2,h3⟩
      unfold upd at h2
      by_cases hm:m=j
      ·rw[if_pos hm] at h2;cases h2
      ·rw[if_neg hm] at h2;exact⟨m,h1,h2,h3⟩
     ·rintro ⟨m,h1,h2,h3,h4⟩
      have hm:m≠j:=fun h=>by subst h;omega
      exact⟨m,h1,by unfold upd;rw[if_neg hm];exact h2,h3,h4⟩
    rw[this]
  have hpl:t.UP j=[]:=ht.noUp hp (by omega)
  unfold wpOp
  simp only[ho]
  cases hw:t.W j with
  | false=>
   rw[hw] at hwant
   rw[hwant]
   simp only[Bool.false_eq_true,if_false]
   obtain⟨n1,n2,n3⟩:=ht.n j p hp hw
   refine fin K R undef w hK hKd' hKn' (Ext.refl R w) ok ?_ (fun i h _=>h) (by rw[n1];exact ZkX)
   rw[hH]
   apply List.ext_getElem?
   intro i
   rw[stg i,n3,if_neg (by rintro ⟨h1,h2⟩;simp at h2;omega)]
  | true=>
   rw[hw] at hwant
   rw[hwant]
   simp only[if_true]
   obtain⟨y1,y2⟩:=ht.y j p hp hw
   rw[hpl] at y1
   have see:Zaw p≤2→∀i blk,(ZeB (t.HH j) ([]++t.pos j) p.mask)[i]? = some blk→blk ≠ .dead→(t.HH j)[i]? = some blk∧∀m,m<j→t.len m≤i→i<t.len (m+1)→D m=true:=fun _ i blk h hd=>by
    obtain⟨h1,h2⟩:=ZjW _ _ _ i blk h hd
    refine⟨h1,fun m hm h3 h4=>?_⟩
    have hq:l[m]? = some (l[m]'(by omega)):=List.getElem?_eq_getElem (by omega)
    rcases hk.early m j _ p hq hp hm with f | f | f
    ·omega
    ·exact down m f
    ·have h5:=h2 m f (t.len m) (t.NW m).length (by simp[Zcc.pos,hm,Zcc.len])
     have:=ht.len_succ (j:=m) (by omega)
     omega
   have hHm:∃Hm,(∀b blk,nth Hm b=some blk→blk ≠ .dead→nth R.H b=some blk)∧opE Γ cf env (t.len j) Hm p.op=some (t.VV j,[],t.NW j):=by
    rcases Nat.lt_or_ge (Zaw p) 2 with h2 | h2
    ·rcases Zmb (p:=p) (by omega) with⟨_,h0⟩ | ⟨h01,h1,hne⟩ | ⟨h01,he1⟩
     ·refine⟨[],fun b blk hb=>by simp[nth] at hb,?_⟩
      rw[hop,ZsM (nid':=(t.HH j).length) (H':=ZeB (t.HH j) ([]++t.pos j) p.mask) h0];exact y1
     ·refine⟨R.H,fun b blk hb _=>hb,?_⟩
      rw[hop]
      refine ZsJ (H:=ZeB (t.HH j) ([]++t.pos j) p.mask) (fun b blk hb hd=>?_) h1 y1
      rw[ZS] at hb
      obtain⟨g1,g2⟩:=see (by omega) b blk hb hd
      have hbj:b<t.len j:=(List.getElem?_eq_some_iff.1 g1).1
      have hbK:b<t.len K:=by
       rcases Nat.lt_or_ge j K with h | h
       ·have:=ht.len_mono (a:=j) K (by omega) hK;omega
       ·by_cases hb0:b<t.len 0
        ·have:=ht.len_mono (a:=0) K (by omega) hK;omega
        ·obtain⟨m,_,f2,f3,f4⟩:=ht.whose (a:=0) j (by omega) (by omega) (by omega) hbj
         have hdm:=g2 m f2 f3 f4
         have hq:l[m]? = some (l[m]'(by omega)):=List.getElem?_eq_getElem (by omega)
         have hmK:m<K:=by
          rcases Nat.lt_or_ge m K with h' | h'
          ·exact h'
          ·obtain⟨q,q1,q2,q3⟩:=hKn (by omega)
           rcases hk.order q1 hq q2 (ht.new2 hq ⟨f3,f4⟩) with f | f | f
           ·subst f;rw[hdm] at q3;cases q3
           ·rw[downD K m (by omega) hdm f.2] at q3;cases q3
           ·omega
         have:=ht.len_mono (a:=m+1) K (by omega) hK;omega
      have hhid:hid t D K b=false:=by
       rw[Zg0]
       intro m hm h3 h4
       rcases Nat.lt_or_ge m j with h | h
       ·exact g2 m h h3 h4
       ·have:=ht.len_mono (a:=j) m h (by omega);omega
      rw[ZS,hH,ZeL hhid]
      have three:∀m q,l[m]? = some q→(j≤m∧m<K∨K≤m∧m<j)→Zaw q≤3:=fun m q hq hm=>by
       rcases Nat.lt_or_ge (Zaw q) 3 with h | h
       ·omega
       ·rcases hk.pair m j q p hq hp h with f | f | f | f | f | f
        ·subst f;rw[hp] at hq;cases hq;omega
        ·rcases hm with hm | hm
         ·have:=hk.lt j m hjl f;omega
         ·have hdm:=down m f
          obtain⟨q',q1,q2,q3⟩:=hKn (by omega)
          rcases hk.order q1 hq q2 (by omega) with g | g | g
          ·subst g;rw[hdm] at q3;cases q3
          ·rw[downD K m (by omega) hdm g.2] at q3;cases q3
          ·omega
        ·rcases hm with hm | hm
         ·have:=downD j m (by omega) (hKd m q hq hm.2 h) f
          rw[hDj] at this;cases this
         ·have:=hk.lt m j (by omega) f;omega
        ·omega
        ·omega
        ·exact absurd f.1 hne
      rcases Nat.le_total j K with h | h
      ·obtain⟨x1,y1',z1,z2,z3⟩:=ht.like hk (a:=j) K h hK (fun m q h3 h4 hq=>three m q hq (.inl ⟨h3,h4⟩)) b hbj
       rw[g1] at z1;cases z1
       exact⟨y1',z2,z3.elim (fun h=>h ▸ Blk.like_refl hd) id⟩
      ·obtain⟨x1,y1',z1,z2,z3⟩:=ht.like hk (a:=K) j h (by omega) (fun m q h3 h4 hq=>three m q hq (.inr ⟨h3,h4⟩)) b hbK
       rw[g1] at z2;cases z2
       exact⟨x1,z1,z3.elim (fun h=>by subst h;exact Blk.like_refl hd) Blk.like_symm⟩
     ·
      obtain⟨n0,ag0,s',hops,hgd⟩:∃n0 ag0 s',p.op = .load n0 ag0 (.t s')∧p.guard=none:=by
       have:=hk.eff1 j p hp
       unfold Zom at this
       rw[he1] at this
       change (match p.op,p.guard with | .load _ _ (.t _),none=>true | _,_=>false)=true at this
       split at this
       ·exact⟨_,_,_,by assumption,by assumption⟩
       ·cases this
      have hsl:s'∈ZcH p:=by unfold ZcH;rw[hops];simp[Zo9,ZrK]
      have hjK:j<K:=by
       rcases Nat.lt_or_ge j K with h | h
       ·exact h
       ·obtain⟨q,g1,g2,g3⟩:=hKn (by omega)
        rcases hk.pair K j q p g1 hp g2 with f | f | f | f | f | f
        ·subst f;rw[hp] at g1;cases g1;omega
        ·rw[down K f] at g3;cases g3
        ·have:=hk.lt K j (by omega) f;omega
        ·omega
        ·exact absurd he1 f.2.2
        ·omega
      have ldE:∀(Hx:Zi) (k:Nat),opE Γ cf (t.E j) k Hx p.op=(match ZcE Hx n0 ag0 (t.E j s') with | some v=>Zct v | none=>none):=fun Hx k=>by rw[hops];rfl
      rw[ldE] at y1
      have hyl:ZcE (ZeB (t.HH j) ([]++t.pos j) p.mask) n0 ag0 (t.E j s')=some (t.VV j)∧t.NW j=[]:=by
       cases hl:ZcE (ZeB (t.HH j) ([]++t.pos j) p.mask) n0 ag0 (t.E j s') with
       | none=>rw[hl] at y1;cases y1
       | some v=>
        rw[hl] at y1
        obtain⟨rfl,_,h3⟩:=Zaa y1
        exact⟨rfl,h3⟩
      obtain⟨hyl,hnw⟩:=hyl
      have key:∀k,j≤k→k≤K→ZcE (t.HH k) n0 ag0 (t.E j s')=some (t.VV j):=by
       intro k
       induction k with
       | zero=>
        intro h _
        have:j=0:=by omega
        subst this
        exact Zh1 hyl fun b _ blk hb hd=>(see (by omega) b blk hb hd).1
       | succ k ih=>
        intro hjk hkK
        by_cases hjk':j=k+1
        ·subst hjk'
         exact Zh1 hyl fun b _ blk hb hd=>(see (by omega) b blk hb hd).1
        ·have ih':=ih (by omega) (by omega)
         have hq:l[k]? = some (l[k]'(by omega)):=List.getElem?_eq_getElem (by omega)
         have app:∀(Ha Hb:Zi),ZcE Ha n0 ag0 (t.E j s')=some (t.VV j)→ZcE (Ha++Hb) n0 ag0 (t.E j s')=some (t.VV j):=fun Ha Hb hl=>
          Zh1 hl fun b _ blk hb _=>by rw[List.getElem?_append_left (List.getElem?_eq_some_iff.1 hb).1];exact hb
         rcases Nat.lt_or_ge (Zaw (l[k]'(by omega))) 3 with h | h
         ·rw[ht.stay1 hq (by omega)]
          exact app _ _ ih'
         ·rcases hk.pair k j _ p hq hp h with f | f | f | f | f | f
          ·subst f
           rw[hp] at hq
           have hq':=Option.some.inj hq
           rw[← hq'] at h
           omega
          ·have:=hk.lt j k hjl f;omega
          ·have:=downD j k (by omega) (hKd k _ hq (by omega) h) f
           rw[hDj] at this;cases this
          ·omega
          ·exact absurd he1 f.2.2
          ·cases hwk:t.W k with
           | false=>
            obtain⟨_,n2,n3⟩:=ht.n k _ hq hwk
            rw[ht.h k _ hq,n2,n3]
            exact app _ _ ih'
           | true=>
            have zc:=(ZjB (ht.y k _ hq hwk).2).2
            have hkp:=f.2.2
            unfold Zq1 at hkp
            rw[hops] at hkp
            split at hkp
            ·rename_i f' args chk s'' hopk hsx
             cases hsx
             rw[hopk] at zc
             obtain⟨i0,q1,q2⟩:=Zol (show ZpN (t.E k) (t.HH k) (Zc6 (t.HH k) (t.UP k)) chk=true from zc) hkp
             rw[ht.envs hk hp he1 hsl k (by omega) (by omega)] at q1 q2
             rw[q1] at ih'
             rw[ht.h k _ hq]
             exact app _ _ (q2.trans ih')
            ·rename_i m' x' y' chk n' a' s'' hopk hsx
             cases hsx
             rw[hopk] at zc
             have ap:=ZkQ (show ZjQ (t.E k) (t.UP k) chk=true from zc) hkp
             rw[ht.envs hk hp he1 hsl k (by omega) (by omega)] at ap
             rw[ht.h k _ hq]
             refine app _ _ (Zh1 ih' fun b hb blk hbk _=>?_)
             rw[Znq (ap b hb)]
             exact hbk
            ·cases hkp
      refine⟨R.H,fun b blk hb _=>hb,?_⟩
      rw[hop,ldE]
      have:ZcE R.H n0 ag0 (t.E j s')=some (t.VV j):=by
       refine Zh1 (key K (by omega) (Nat.le_refl _)) fun b hb blk hbk hd=>?_
       obtain⟨blk0,h5,h6⟩:=ZpG hyl hb
       obtain⟨g1,g2⟩:=see (by omega) b blk0 h5 h6
       have hbj:b<t.len j:=(List.getElem?_eq_some_iff.1 g1).1
       rw[hH,ZeL]
       ·exact hbk
       ·rw[Zg0]
        intro m hm h3 h4
        rcases Nat.lt_or_ge m j with h | h
        ·exact g2 m h h3 h4
        ·have:=ht.len_mono (a:=j) m h (by omega);omega
      rw[this,hnw];rfl
    ·obtain⟨t1,t2⟩:=two h2
     refine⟨_,fun b blk hb hd=>?_,by rw[hop];exact y1⟩
     rw[ZS] at hb
     obtain⟨g1,g2⟩:=see (by omega) b blk hb hd
     have hbj:b<t.len j:=(List.getElem?_eq_some_iff.1 g1).1
     rw[ZS,hH,ZeL,ht.stay K (by omega) hK t2 b hbj]
     ·exact g1
     ·rw[Zg0]
      intro m hm h3 h4
      rcases Nat.lt_or_ge m j with h | h
      ·exact g2 m h h3 h4
      ·have:=ht.len_mono (a:=j) m h (by omega);omega
   obtain⟨Hm,hle,hop'⟩:=hHm
   have pre:Pre G R w env a Hm:=⟨ok,x.gok c.ok.b01 c.g,hE,hle⟩
   have hplaced:Z7 R.H [] (t.len j) (t.NW j) (Zgb t (upd D j) K):=fun i=>by rw[stg i,hH];rfl
   refine .inl ((ZrD pre c.cf k3 hop' free hplaced).wp fun u w' hpost=>?_)
   obtain⟨R',x',ok',hH',hv,hM'⟩:=hpost
   exact fin K R' u w' hK hKd' hKn' x' ok' hH' (fun i h1 h2=>hM' i h1 (by omega)) hv
 ·
  have hjK:j=K:=by
   rcases Nat.lt_trichotomy j K with h | h | h
   ·rw[hKd j p hp h hc] at hDj;cases hDj
   ·exact h
   ·obtain⟨q,g1,g2,g3⟩:=hKn (by omega)
    rcases hk.order g1 hp g2 (by omega) with f | f | f
    ·omega
    ·rw[down K f.2] at g3;cases g3
    ·omega
  subst hjK
  have below:∀m q,l[m]? = some q→m<j→2≤Zaw q→D m=true:=fun m q hq hm h2=>by
   rcases hk.order hp hq hc h2 with f | f | f
   ·omega
   ·omega
   ·exact down m f.2
  have above:∀m q,l[m]? = some q→j<m→2≤Zaw q→D m=false:=fun m q hq hm h2=>by
   cases hd:D m with
   | false=>rfl
   | true=>
    rcases hk.order hp hq hc h2 with f | f | f
    ·omega
    ·have:=downD j m (List.getElem?_eq_some_iff.1 hq).1 hd f.2
     rw[hDj] at this;cases this
    ·omega
  have full:Zgb t D j=t.HH j:=by
   apply List.ext_getElem?
   intro i
   refine ZeL (Zg0.2 fun m hm h3 h4=>?_)
   have hq:l[m]? = some (l[m]'(by omega)):=List.getElem?_eq_getElem (by omega)
   exact below m _ hq hm (ht.new2 hq ⟨h3,h4⟩)
  rw[full] at hH
  have go:∀(R':RP) (u:Value) (w':World),Ext R w R' w'→R'.OK w'→R'.H=t.HH (j+1)→(∀i,R.M i=none→¬(t.len j≤i∧i<t.len (j+1))→R'.M i=none)→ZaM R' w' (t.VV j) u→ZpJ P N t l os e H Rf wf (upd D j) (a.put o.dst u) w':=by
   intro R' u w' x' ok' hH' hM' hv
   obtain⟨K',g1,g2,g3,g4,g5⟩:=Zqt ht (D:=upd D j) (s:=j+1) (by omega) ok' hH' (fun m q hq hm h2=>by
    unfold upd
    by_cases hmj:m=j
    ·rw[if_pos hmj]
    ·rw[if_neg hmj];exact below m q hq (by omega) h2) (fun m q hq hm h2=>by
    unfold upd;rw[if_neg (by omega)];exact above m q hq (by omega) h2)
   exact fin K' _ u w' g1 g2 g3 (x'.trans g4) g5 rfl hM' (g4.denV ok'.b01 _ _ hv)
  unfold wpOp
  simp only[ho]
  cases hw:t.W j with
  | false=>
   rw[hw] at hwant
   rw[hwant]
   simp only[Bool.false_eq_true,if_false]
   obtain⟨n1,n2,n3⟩:=ht.n j p hp hw
   refine go R undef w (Ext.refl R w) ok ?_ (fun i h _=>h) (by rw[n1];exact ZkX)
   rw[hH,ht.h j p hp,n2,n3];simp[Zc6]
  | true=>
   rw[hw] at hwant
   rw[hwant]
   simp only[if_true]
   obtain⟨y1,y2⟩:=ht.y j p hp hw
   rw[hk.mask j p hp hc] at y1
   have pre:Pre G R w env a (t.HH j):=⟨ok,x.gok c.ok.b01 c.g,hE,fun b blk hb _=>by rw[hH];exact hb⟩
   have hplaced:Z7 R.H (t.UP j) (t.len j) (t.NW j) (t.HH (j+1)):=by
    rw[hH,ht.h j p hp];exact ZlI _ _ _
   refine .inl ((ZrD pre c.cf k3 (by rw[hop];exact y1) free hplaced).wp fun u w' hpost=>?_)
   obtain⟨R',x',ok',hH',hv,hM'⟩:=hpost
   exact go R' u w' x' ok' hH' (fun i h1 h2=>hM' i h1 (by omega)) hv
theorem Zmt {p q:Nat→Bool}:∀(l:List Nat) (j:Nat),(∀x,q x=true→p x=true)→j∈l→p j=true→q j=false→l.countP q<l.countP p
 | [],j,_,h,_,_=>by cases h
 | x :: l,j,hq,h,h1,h2=>by
  have mono:∀l:List Nat,l.countP q≤l.countP p:=fun l=>List.countP_mono_left fun x _ h=>hq x h
  rw[List.countP_cons,List.countP_cons]
  by_cases hx:x=j
  ·subst hx
   have:=mono l
   rw[h1,h2];simp;omega
  ·have:=Zmt l j hq ((List.mem_cons.1 h).resolve_left (fun h=>hx h.symm)) h1 h2
   cases hqx:q x with
   | true=>rw[hq x hqx];simp;omega
   | false=>cases hpx:p x<;>simp<;>omega
theorem Zqw (c:ZhN P G cf Rf wf) (hlo:Rf.H.length≤H.length) (ht:t.OK Γ cf [] l e H e' H') (hk:Chk P G N os l B) {Q:Exit→Act→World→Prop} (hQ:∀D a w,(∀j,j<l.length→D j=true)→ZpJ P N t l os e H Rf wf D a w→Q .normal a w) :
  ∀(fuel:Nat) (listed:Array Bool) (a:Act) (w:World),listed.size=os.size→ZpJ P N t l os e H Rf wf (fun j=>listed.getD j false) a w→(List.range os.size).countP (fun j=>!listed.getD j false)≤fuel→wpAny P .any os Q fuel listed a w:=by
 have full:∀(listed:Array Bool),listed.size=os.size→(Region.ready .any os listed=[])→∀j,j<l.length→listed.getD j false=true:=by
  intro listed hsz hr j
  induction j using Nat.strongRecOn with
  | ind j ih=>
   intro hj
   have hjs:j<os.size:=by rw[hk.len];exact hj
   cases hd:listed.getD j false with
   | true=>rfl
   | false=>
    have:j∈Region.ready .any os listed:=by
     rw[mem_ready]
     refine⟨?_,os[j],Array.getElem?_eq_getElem hjs,fun ed he hb=>?_⟩
     ·simp only[Array.getD_eq_getD_getElem?] at hd ⊢
      rw[Array.getElem?_eq_getElem (by omega)] at hd ⊢;exact hd
     ·have hlt:=hk.pre j _ (Array.getElem?_eq_getElem hjs) ed.on (by
       unfold ZjG
       exact List.mem_map.2 ⟨ed,List.mem_filter.2 ⟨by simpa using he,hb⟩,rfl⟩)
      exact ih ed.on hlt (by omega)
    rw[hr] at this;cases this
 intro fuel
 induction fuel with
 | zero=>
  intro listed a w hsz s hc
  have hall:∀j,j<l.length→listed.getD j false=true:=fun j hj=>by
   cases hd:listed.getD j false with
   | true=>rfl
   | false=>
    have h1:0<(List.range os.size).countP (fun j=>!listed.getD j false):=List.countP_pos_iff.2 ⟨j,by simp[hk.len,hj],by simp only[hd];rfl⟩
    omega
  refine⟨?_,hQ _ a w hall s⟩
  apply List.eq_nil_iff_forall_not_mem.2
  intro j hj
  obtain⟨h1,o,h2,_⟩:=mem_ready.1 hj
  have hjs:=(Array.getElem?_eq_some_iff.1 h2).1
  have:=hall j (by rw[← hk.len];exact hjs)
  simp only[Array.getD_eq_getD_getElem?] at h1 this
  rw[Array.getElem?_eq_getElem (by omega)] at h1 this
  simp at h1 this;rw[h1] at this;cases this
 | succ fuel ih=>
  intro listed a w hsz s hc
  refine⟨fun hr=>hQ _ a w (full listed hsz hr) s,fun j hj=>?_⟩
  obtain⟨h1,o,h2,h3⟩:=mem_ready.1 hj
  have hjs:=(Array.getElem?_eq_some_iff.1 h2).1
  have hd:listed.getD j false=false:=by
   simp only[Array.getD_eq_getD_getElem?] at h1 ⊢
   rw[Array.getElem?_eq_getElem (by omega)] at h1 ⊢;exact h1
  have hup:upd (fun j=>listed.getD j false) j=fun k=>(listed.setIfInBounds j true).getD k false:=by
   funext k
   unfold upd
   by_cases hkj:k=j
   ·subst hkj
    rw[if_pos rfl]
    simp[Array.getD_eq_getD_getElem?,hsz,hjs]
   ·rw[if_neg hkj,getD_set_ne false (fun h=>hkj h.symm)]
  refine wpOp_mono (fun a' w' s'=>ih _ a' w' (by simp[hsz]) s' ?_) (hup ▸ Zav c hlo ht hk s h2 hd fun i hi=>?_)
  ·have:=Zmt (p:=fun j=>!listed.getD j false) (q:=fun k=>!(listed.setIfInBounds j true).getD k false) (List.range os.size) j (fun k hk'=>by
    by_cases hkj:j=k
    ·subst hkj;simp only[hd];rfl
    ·rw[getD_set_ne false hkj] at hk';exact hk') (by simp[hjs]) (by simp only[hd];rfl) (by simp[Array.getD_eq_getD_getElem?,hsz,hjs])
   omega
  ·unfold ZjG at hi
   obtain⟨ed,f1,rfl⟩:=List.mem_map.1 hi
   obtain⟨f2,f3⟩:=List.mem_filter.1 f1
   exact h3 ed (by simpa using f2) f3
end
theorem Zsv {P:Program}{G:Za9}{N:Nat}{Γ:Ctx}{cf:ZaY}:ZiU P G N Γ cf (ZN P G N):=by
 intro id os l Rf wf e H e' H' a w hok hd c s
 obtain⟨B,hk⟩:=ZoN hok
 obtain⟨t,ht⟩:=ZkT l [] e H e' H' hd
 obtain⟨R,x,ok,hH,hM,hE⟩:=s.ex
 refine wp_region_any hk.mixed ?_
 have xd:Ext R w R { w with drawn:=w.drawn+1 }:=Ext.draw rfl rfl rfl rfl
 have okd:R.OK { w with drawn:=w.drawn+1 }:=ok.draw rfl rfl rfl rfl
 refine Zqw c s.hl ht hk (fun D a' w' hall s'=>?_) os.size _ a _ (by simp) ?_ ?_
 ·obtain⟨K,R',env,h1,h2,h3,x',ok',hH',hM',hE',hV,hO⟩:=s'.ex
  have hKl:K=l.length:=by
   rcases Nat.lt_or_ge K l.length with h | h
   ·obtain⟨_,_,_,h4⟩:=h3 h
    rw[hall K h] at h4;cases h4
   ·omega
  subst hKl
  have hHe:Zgb t D l.length=H':=by
   rw[← ht.h1]
   apply List.ext_getElem?
   intro i
   exact ZeL (Zg0.2 fun m hm _ _=>hall m hm)
  have hle:H.length≤H'.length:=by
   have:=ht.len_mono (a:=0) l.length (by omega) (Nat.le_refl _)
   unfold Zcc.len at this;rw[ht.h0,ht.h1] at this;exact this
  have henv:∀d,env d=e' d:=fun d=>by
   rw[← ht.e1]
   by_cases hx:∃(i:Nat) (q:Op1),l[i]? = some q∧q.dst=some d
   ·obtain⟨i,q,hq,hqd⟩:=hx
    have hi:=(List.getElem?_eq_some_iff.1 hq).1
    rw[hV i q d hq hqd (hall i hi),ht.envd hk hq hqd l.length hi (Nat.le_refl _)]
   ·have hn:∀(i:Nat) (q:Op1),l[i]? = some q→q.dst≠some d:=fun i q hq hqd=>hx ⟨i,q,hq,hqd⟩
    rw[hO d fun i q hq hqd=>absurd hqd (hn i q hq),ht.env0 l.length (Nat.le_refl _) fun i q _ hq=>hn i q hq]
  refine⟨rfl,⟨⟨R',x',ok',by rw[hH',hHe],fun i hi=>hM' i (by omega) fun j hj _ hb=>?_,fun d=>by rw[← henv d];exact hE' d⟩,s'.tm,s'.df,by have:=s.hl;omega⟩⟩
  have:=ht.len_mono (a:=j+1) l.length (by omega) (Nat.le_refl _)
  have h2:t.len l.length=H'.length:=by unfold Zcc.len;rw[ht.h1]
  omega
 ·have hf:∀j,(Array.replicate os.size false).getD j false=false:=fun j=>by
   by_cases hj:j<os.size<;>simp[Array.getD_eq_getD_getElem?,hj]
  obtain⟨K,g1,g2,g3,g4,g5⟩:=Zqt ht (D:=fun j=>(Array.replicate os.size false).getD j false) (s:=0) (Nat.zero_le _) okd (by rw[ht.h0];exact hH) (fun m p _ hm=>by omega) (fun m p _ _ _=>hf m)
  refine⟨fun j o _ hd=>(by rw[hf j] at hd;cases hd),⟨K,_,e,g1,g2,g3,(x.trans xd).trans g4,g5,rfl,fun i hi _=>hM i hi,g4.envOK okd.b01 (xd.envOK ok.b01 hE),fun j p d _ _ hd=>(by rw[hf j] at hd;cases hd),fun d _=>rfl⟩,s.tm,s.df⟩
 ·exact Nat.le_trans List.countP_le_length (by simp)
theorem Zqo {P:Program}{G:Za9}{Γ:Ctx} (hall:∀f fn,Γ.code f=some fn→Za3 P G (fun N=>ZN P G N) f fn=true∨Zk0 P f fn):Zel P G (evW Γ):=
 Ztw (fun _ _ _=>Zsv) hall
end Go.Proofs.YtnpidpcmpleiaaaDoorE
namespace Go.Proofs.YtnpidpcmpleiaaaDoor
open Go Go.Proofs.YtnpidpcmpleiaaaDoorE
def Zs2:List (IntKind×Int):=[(.u8,0),(.u8,1),(.u8,28),(.u8,2),(.u8,29),(.u8,14),(.u8,24),(.u8,3),(.u8,30),(.u8,22),(.u8,20),(.u8,15),(.u8,25),(.u8,17),(.u8,4),(.u8,8),(.u8,31),(.u8,27),(.u8,13),(.u8,23),(.u8,21),(.u8,19),(.u8,16),(.u8,7),(.u8,26),(.u8,12),(.u8,18),(.u8,6),(.u8,11),(.u8,5),(.u8,10),(.u8,9)]
def ZsT:List (IntKind×Int):=[(.u8,0),(.u8,1),(.u8,56),(.u8,2),(.u8,57),(.u8,49),(.u8,28),(.u8,3),(.u8,61),(.u8,58),(.u8,42),(.u8,50),(.u8,38),(.u8,29),(.u8,17),(.u8,4),(.u8,62),(.u8,47),(.u8,59),(.u8,36),(.u8,45),(.u8,43),(.u8,51),(.u8,22),(.u8,53),(.u8,39),(.u8,33),(.u8,30),(.u8,24),(.u8,18),(.u8,12),(.u8,5),(.u8,63),(.u8,55),(.u8,48),(.u8,27),(.u8,60),(.u8,41),(.u8,37),(.u8,16),(.u8,46),(.u8,35),(.u8,44),(.u8,21),(.u8,52),(.u8,32),(.u8,23),(.u8,11),(.u8,54),(.u8,26),(.u8,40),(.u8,15),(.u8,34),(.u8,20),(.u8,31),(.u8,10),(.u8,25),(.u8,14),(.u8,19),(.u8,9),(.u8,13),(.u8,8),(.u8,7),(.u8,6)]
def Zx:Za9
 | 0=>some Zs2
 | 1=>some ZsT
 | _=>none
theorem ok3:Za3 Tryd.prog Zx (fun N=>ZN Tryd.prog Zx N) 3 fn3=true:=by kernel_rfl
theorem ok4:Za3 Tryd.prog Zx (fun N=>ZN Tryd.prog Zx N) 4 fn4=true:=by kernel_rfl
theorem ok5:Za3 Tryd.prog Zx (fun N=>ZN Tryd.prog Zx N) 5 fn5=true:=by kernel_rfl
theorem ok6:Za3 Tryd.prog Zx (fun N=>ZN Tryd.prog Zx N) 6 fn6=true:=by kernel_rfl
theorem ok7:Za3 Tryd.prog Zx (fun N=>ZN Tryd.prog Zx N) 7 fn7=true:=by kernel_rfl
theorem ok8:Za3 Tryd.prog Zx (fun N=>ZN Tryd.prog Zx N) 8 fn8=true:=by kernel_rfl
theorem ok9:Za3 Tryd.prog Zx (fun N=>ZN Tryd.prog Zx N) 9 fn9=true:=by kernel_rfl
theorem Zvo:Za3 Tryd.prog Zx (fun N=>ZN Tryd.prog Zx N) 10 Ztj=true:=by kernel_rfl
theorem ZwR:Za3 Tryd.prog Zx (fun N=>ZN Tryd.prog Zx N) 11 Zul=true:=by kernel_rfl
theorem Zw2:Za3 Tryd.prog Zx (fun N=>ZN Tryd.prog Zx N) 12 ZtJ=true:=by kernel_rfl
theorem Zv6:Za3 Tryd.prog Zx (fun N=>ZN Tryd.prog Zx N) 13 Zub=true:=by kernel_rfl
theorem Zws:Za3 Tryd.prog Zx (fun N=>ZN Tryd.prog Zx N) 14 Zva=true:=by kernel_rfl
theorem Zwc:Za3 Tryd.prog Zx (fun N=>ZN Tryd.prog Zx N) 15 Zug=true:=by kernel_rfl
theorem Zxe:Za3 Tryd.prog Zx (fun N=>ZN Tryd.prog Zx N) 16 Zus=true:=by kernel_rfl
theorem Zwl:Za3 Tryd.prog Zx (fun N=>ZN Tryd.prog Zx N) 17 Zuz=true:=by kernel_rfl
theorem ZwV:Za3 Tryd.prog Zx (fun N=>ZN Tryd.prog Zx N) 18 Zut=true:=by kernel_rfl
theorem Zvj:Za3 Tryd.prog Zx (fun N=>ZN Tryd.prog Zx N) 19 Ztd=true:=by kernel_rfl
theorem Zw8:Za3 Tryd.prog Zx (fun N=>ZN Tryd.prog Zx N) 20 ZtO=true:=by kernel_rfl
theorem Zv2:Za3 Tryd.prog Zx (fun N=>ZN Tryd.prog Zx N) 21 Zuf=true:=by kernel_rfl
theorem Zvk:Za3 Tryd.prog Zx (fun N=>ZN Tryd.prog Zx N) 22 ZtW=true:=by kernel_rfl
theorem Zxb:Za3 Tryd.prog Zx (fun N=>ZN Tryd.prog Zx N) 23 Zur=true:=by kernel_rfl
theorem ZvJ:Za3 Tryd.prog Zx (fun N=>ZN Tryd.prog Zx N) 24 Ztm=true:=by kernel_rfl
theorem Zw6:Za3 Tryd.prog Zx (fun N=>ZN Tryd.prog Zx N) 25 Zue=true:=by kernel_rfl
theorem Zxc:Za3 Tryd.prog Zx (fun N=>ZN Tryd.prog Zx N) 26 Ztk=true:=by kernel_rfl
theorem ZvY:Za3 Tryd.prog Zx (fun N=>ZN Tryd.prog Zx N) 27 Ztg=true:=by kernel_rfl
theorem ZvL:Za3 Tryd.prog Zx (fun N=>ZN Tryd.prog Zx N) 28 ZtE=true:=by kernel_rfl
theorem Zwd:Za3 Tryd.prog Zx (fun N=>ZN Tryd.prog Zx N) 29 ZtG=true:=by kernel_rfl
theorem Zvl:Za3 Tryd.prog Zx (fun N=>ZN Tryd.prog Zx N) 30 Ztr=true:=by kernel_rfl
theorem Zvm:Za3 Tryd.prog Zx (fun N=>ZN Tryd.prog Zx N) 31 ZtK=true:=by kernel_rfl
theorem ZvQ:Za3 Tryd.prog Zx (fun N=>ZN Tryd.prog Zx N) 32 ZtF=true:=by kernel_rfl
theorem Zw5:Za3 Tryd.prog Zx (fun N=>ZN Tryd.prog Zx N) 33 Zui=true:=by kernel_rfl
theorem ZvO:Za3 Tryd.prog Zx (fun N=>ZN Tryd.prog Zx N) 34 ZuL=true:=by kernel_rfl
theorem Zvv:Za3 Tryd.prog Zx (fun N=>ZN Tryd.prog Zx N) 35 Zu0=true:=by kernel_rfl
theorem ZvG:Za3 Tryd.prog Zx (fun N=>ZN Tryd.prog Zx N) 36 Zu7=true:=by kernel_rfl
theorem Zwq:Za3 Tryd.prog Zx (fun N=>ZN Tryd.prog Zx N) 37 Zu5=true:=by kernel_rfl
theorem ZvK:Za3 Tryd.prog Zx (fun N=>ZN Tryd.prog Zx N) 38 ZuE=true:=by kernel_rfl
theorem ZwC:Za3 Tryd.prog Zx (fun N=>ZN Tryd.prog Zx N) 39 ZuD=true:=by kernel_rfl
theorem Zvg:Za3 Tryd.prog Zx (fun N=>ZN Tryd.prog Zx N) 40 Ztf=true:=by kernel_rfl
theorem ZvC:Za3 Tryd.prog Zx (fun N=>ZN Tryd.prog Zx N) 41 ZtT=true:=by kernel_rfl
theorem ZwF:Za3 Tryd.prog Zx (fun N=>ZN Tryd.prog Zx N) 42 ZuA=true:=by kernel_rfl
theorem Zw3:Za3 Tryd.prog Zx (fun N=>ZN Tryd.prog Zx N) 43 Zt1=true:=by kernel_rfl
theorem ZwB:Za3 Tryd.prog Zx (fun N=>ZN Tryd.prog Zx N) 44 Zuc=true:=by kernel_rfl
theorem Zvh:Za3 Tryd.prog Zx (fun N=>ZN Tryd.prog Zx N) 45 ZtV=true:=by kernel_rfl
theorem Zvf:Za3 Tryd.prog Zx (fun N=>ZN Tryd.prog Zx N) 46 ZtX=true:=by kernel_rfl
theorem Zvy:Za3 Tryd.prog Zx (fun N=>ZN Tryd.prog Zx N) 47 Zti=true:=by kernel_rfl
theorem Zw9:Za3 Tryd.prog Zx (fun N=>ZN Tryd.prog Zx N) 48 Zt2=true:=by kernel_rfl
theorem Zvq:Za3 Tryd.prog Zx (fun N=>ZN Tryd.prog Zx N) 49 Zuw=true:=by kernel_rfl
theorem Zxi:Za3 Tryd.prog Zx (fun N=>ZN Tryd.prog Zx N) 50 Zuy=true:=by kernel_rfl
theorem Zwb:Za3 Tryd.prog Zx (fun N=>ZN Tryd.prog Zx N) 51 ZtS=true:=by kernel_rfl
theorem ZwY:Za3 Tryd.prog Zx (fun N=>ZN Tryd.prog Zx N) 52 Zuq=true:=by kernel_rfl
theorem ZvR:Za3 Tryd.prog Zx (fun N=>ZN Tryd.prog Zx N) 53 Zux=true:=by kernel_rfl
theorem Zv4:Za3 Tryd.prog Zx (fun N=>ZN Tryd.prog Zx N) 54 ZtM=true:=by kernel_rfl
theorem ZwU:Za3 Tryd.prog Zx (fun N=>ZN Tryd.prog Zx N) 55 ZtC=true:=by kernel_rfl
theorem ZwQ:Za3 Tryd.prog Zx (fun N=>ZN Tryd.prog Zx N) 56 ZtU=true:=by kernel_rfl
theorem Zw1:Za3 Tryd.prog Zx (fun N=>ZN Tryd.prog Zx N) 57 Zuk=true:=by kernel_rfl
theorem Zw0:Za3 Tryd.prog Zx (fun N=>ZN Tryd.prog Zx N) 58 ZtB=true:=by kernel_rfl
theorem ZwI:Za3 Tryd.prog Zx (fun N=>ZN Tryd.prog Zx N) 59 Zto=true:=by kernel_rfl
theorem ZvU:Za3 Tryd.prog Zx (fun N=>ZN Tryd.prog Zx N) 60 Ztc=true:=by kernel_rfl
theorem ZwJ:Za3 Tryd.prog Zx (fun N=>ZN Tryd.prog Zx N) 61 ZtP=true:=by kernel_rfl
theorem Zxj:Za3 Tryd.prog Zx (fun N=>ZN Tryd.prog Zx N) 62 ZuN=true:=by kernel_rfl
theorem Zwr:Za3 Tryd.prog Zx (fun N=>ZN Tryd.prog Zx N) 63 ZtZ=true:=by kernel_rfl
theorem ZvD:Za3 Tryd.prog Zx (fun N=>ZN Tryd.prog Zx N) 64 ZuO=true:=by kernel_rfl
theorem Zv9:Za3 Tryd.prog Zx (fun N=>ZN Tryd.prog Zx N) 65 ZuB=true:=by kernel_rfl
theorem Zwe:Za3 Tryd.prog Zx (fun N=>ZN Tryd.prog Zx N) 66 ZuV=true:=by kernel_rfl
theorem ZwT:Za3 Tryd.prog Zx (fun N=>ZN Tryd.prog Zx N) 67 ZtH=true:=by kernel_rfl
theorem ZwG:Za3 Tryd.prog Zx (fun N=>ZN Tryd.prog Zx N) 68 Zth=true:=by kernel_rfl
theorem ZwH:Za3 Tryd.prog Zx (fun N=>ZN Tryd.prog Zx N) 69 Zuh=true:=by kernel_rfl
theorem ZvT:Za3 Tryd.prog Zx (fun N=>ZN Tryd.prog Zx N) 70 Zua=true:=by kernel_rfl
theorem Zw7:Za3 Tryd.prog Zx (fun N=>ZN Tryd.prog Zx N) 71 Zt0=true:=by kernel_rfl
theorem ZwW:Za3 Tryd.prog Zx (fun N=>ZN Tryd.prog Zx N) 72 Zta=true:=by kernel_rfl
theorem Zv0:Za3 Tryd.prog Zx (fun N=>ZN Tryd.prog Zx N) 73 Ztu=true:=by kernel_rfl
theorem ZuT:∀f fn,ctx.code f=some fn→Za3 Tryd.prog Zx (fun N=>ZN Tryd.prog Zx N) f fn=true∨Zk0 Tryd.prog f fn:=by
 intro f fn h
 change code f=some fn at h
 unfold code at h
 split at h
 ·cases h;exact .inl ok3
 ·cases h;exact .inl ok4
 ·cases h;exact .inl ok5
 ·cases h;exact .inl ok6
 ·cases h;exact .inl ok7
 ·cases h;exact .inl ok8
 ·cases h;exact .inl ok9
 ·cases h;exact .inl Zvo
 ·cases h;exact .inl ZwR
 ·cases h;exact .inl Zw2
 ·cases h;exact .inl Zv6
 ·cases h;exact .inl Zws
 ·cases h;exact .inl Zwc
 ·cases h;exact .inl Zxe
 ·cases h;exact .inl Zwl
 ·cases h;exact .inl ZwV
 ·cases h;exact .inl Zvj
 ·cases h;exact .inl Zw8
 ·cases h;exact .inl Zv2
 ·cases h;exact .inl Zvk
 ·cases h;exact .inl Zxb
 ·cases h;exact .inl ZvJ
 ·cases h;exact .inl Zw6
 ·cases h;exact .inl Zxc
 ·cases h;exact .inl ZvY
 ·cases h;exact .inl ZvL
 ·cases h;exact .inl Zwd
 ·cases h;exact .inl Zvl
 ·cases h;exact .inl Zvm
 ·cases h;exact .inl ZvQ
 ·cases h;exact .inl Zw5
 ·cases h;exact .inl ZvO
 ·cases h;exact .inl Zvv
 ·cases h;exact .inl ZvG
 ·cases h;exact .inl Zwq
 ·cases h;exact .inl ZvK
 ·cases h;exact .inl ZwC
 ·cases h;exact .inl Zvg
 ·cases h;exact .inl ZvC
 ·cases h;exact .inl ZwF
 ·cases h;exact .inl Zw3
 ·cases h;exact .inl ZwB
 ·cases h;exact .inl Zvh
 ·cases h;exact .inl Zvf
 ·cases h;exact .inl Zvy
 ·cases h;exact .inl Zw9
 ·cases h;exact .inl Zvq
 ·cases h;exact .inl Zxi
 ·cases h;exact .inl Zwb
 ·cases h;exact .inl ZwY
 ·cases h;exact .inl ZvR
 ·cases h;exact .inl Zv4
 ·cases h;exact .inl ZwU
 ·cases h;exact .inl ZwQ
 ·cases h;exact .inl Zw1
 ·cases h;exact .inl Zw0
 ·cases h;exact .inl ZwI
 ·cases h;exact .inl ZvU
 ·cases h;exact .inl ZwJ
 ·cases h;exact .inl Zxj
 ·cases h;exact .inl Zwr
 ·cases h;exact .inl ZvD
 ·cases h;exact .inl Zv9
 ·cases h;exact .inl Zwe
 ·cases h;exact .inl ZwT
 ·cases h;exact .inl ZwG
 ·cases h;exact .inl ZwH
 ·cases h;exact .inl ZvT
 ·cases h;exact .inl Zw7
 ·cases h;exact .inl ZwW
 ·cases h;exact .inl Zv0
 ·cases h
theorem ZuX:Zel Tryd.prog Zx (evW ctx):=Zqo ZuT
end Go.Proofs.YtnpidpcmpleiaaaDoor
namespace Go.Proofs.YtnpidpcmpleiaaaDoorE
open Go
set_option linter.unusedVariables false
set_option linter.unusedSimpArgs false
inductive Lf where
 | bool | int (k:IntKind) | str | sl (ag:Bool) (els:List Lf)
mutual
def Zsr:Lf→D→Prop
 | .bool,x=>∃b,x = .bool b
 | .int k,x=>∃n,x = .int k n∧(Lit.int k n).wf=true
 | .str,x=>∃s,x = .str s∧s.size≤maxLen
 | .sl ag els,x=>∃xs,x = .list true xs∧xs.length≤maxLen∧∀y∈xs,y.isAgg=ag∧ZeW els y.cells
def ZeW:List Lf→List D→Prop
 | [],ds=>ds=[]
 | l :: ls,ds=>∃d r,ds=d :: r∧Zsr l d∧ZeW ls r
end
def ZgZ (P:Program) (g:TypeId→Option (List Lf×Bool)):Nat→List Field→Option (List Lf)
 | _,[]=>some []
 | off,f :: fs=>match g f.type with
  | some (l,_)=>(match ZgZ P g (off+l.length) fs with
   | some r=>bif Nat.beq f.offset off&&Nat.beq (P.cellsOf f.type) l.length then some (l++r) else none
   | none=>none)
  | none=>none
def lfs (P:Program):Nat→TypeId→Option (List Lf×Bool)
 | 0,_=>none
 | n+1,t=>match P.underlying t with
  | some .bool=>some ([.bool],false)
  | some (.int k)=>some ([.int k],false)
  | some .string=>some ([.str],false)
  | some (.slice e)=>(match lfs P n e with | some (l,ag)=>bif Nat.beq (P.cellsOf e) l.length&&Nat.blt 0 l.length then some ([.sl ag l],false) else none | none=>none)
  | some (.struct fs)=>(match ZgZ P (lfs P n) 0 fs.toList with | some l=>bif Nat.beq (P.cellsOf t) l.length then some (l,true) else none | none=>none)
  | _=>none
mutual
theorem Zn1:∀(l:Lf) (x:D),Zsr l x→x.esc=true∧x.isAgg=false∧x.cells=[x]
 | .bool,x,h=>by obtain⟨b,rfl⟩:=h;exact⟨rfl,rfl,rfl⟩
 | .int k,x,h=>by obtain⟨n,rfl,_⟩:=h;exact⟨rfl,rfl,rfl⟩
 | .str,x,h=>by obtain⟨s,rfl,_⟩:=h;exact⟨rfl,rfl,rfl⟩
 | .sl ag els,x,h=>by obtain⟨xs,rfl,_⟩:=h;exact⟨rfl,rfl,rfl⟩
theorem Zms:∀(ls:List Lf) (ds:List D),ZeW ls ds→D.escs ds=true∧ds.length=ls.length
 | [],ds,h=>by obtain rfl:=h;exact⟨rfl,rfl⟩
 | l :: ls,ds,h=>by
  obtain⟨d,r,rfl,h1,h2⟩:=h
  obtain⟨e1,e2,_⟩:=Zn1 l d h1
  obtain⟨e3,e4⟩:=Zms ls r h2
  exact⟨by simp[D.escs,e1,e2,e3],by simp[e4]⟩
end
theorem Zmd:∀(l r:List Lf) (ds es:List D),ZeW l ds→ZeW r es→ZeW (l++r) (ds++es)
 | [],r,ds,es,h,k=>by obtain rfl:=h;exact k
 | a :: l,r,ds,es,h,k=>by
  obtain⟨d,ds',rfl,h1,h2⟩:=h
  exact⟨d,ds'++es,rfl,h1,Zmd l r ds' es h2 k⟩
section
variable {H:Type} {enc:TypeId×Value→H} {P:Program} {W:World} {sp:Nat→Bool} {held:Bool}
abbrev All:Nat→Prop:=fun _=>True
theorem Zmh:∀(ds es:List D) (us vs:List Value),ZaD All All All W ds us→ZaD All All All W es vs→ZaD All All All W (ds++es) (us++vs)
 | [],es,us,vs,h,k=>by obtain rfl:=h;exact k
 | x :: ds,es,us,vs,h,k=>by
  obtain⟨u,us',rfl,h1,h2⟩:=h
  exact⟨u,us'++vs,rfl,h1,Zmh ds es us' vs h2 k⟩
theorem ZnC {a:Addr}{n:Nat}{cs:List Value} (h:W.cells? 0 a n=some cs):cs.length=n∧∀k,k<n→W.cell? (a.add k)=cs[k]?:=by
 unfold World.cells? at h
 rw[if_pos (Nat.zero_le _)] at h
 exact⟨by simpa using mapM_some_length h,fun k hk=>mapM_some_get h k k (by simp[hk])⟩
theorem ZlV {g:TypeId→Option (List Lf×Bool)}{m:Nat}{cs:List Value}
  (hg:∀t l ag cs x,g t=some (l,ag)→DataW.trod enc P W 0 sp held m t cs=some x→∃ds,ZaD All All All W ds cs∧ZeW l ds) :
  ∀(fs:List Field) (off:Nat) (l:List Lf) (xs:List (DataW H×List MemPlace)),ZgZ P g off fs=some l→xs.length=fs.length→off+l.length≤cs.length →
   (∀(i:Nat) f,fs[i]? = some f→DataW.trod enc P W 0 sp held m f.type ((cs.drop f.offset).take (P.cellsOf f.type))=xs[i]?)→∃ds,ZaD All All All W ds ((cs.drop off).take l.length)∧ZeW l ds
 | [],off,l,xs,h,_,_,_=>by
  simp only[ZgZ,Option.some.injEq] at h
  subst h
  exact⟨[],by simp[ZaD],rfl⟩
 | f :: fs,off,l,xs,h,hl,hle,hx=>by
  simp only[ZgZ] at h
  cases hgf:g f.type with
  | none=>rw[hgf] at h;cases h
  | some q=>
   obtain⟨l1,ag⟩:=q
   rw[hgf] at h
   dsimp only at h
   cases hr:ZgZ P g (off+l1.length) fs with
   | none=>rw[hr] at h;cases h
   | some r=>
    rw[hr] at h
    dsimp only at h
    cases hc:(Nat.beq f.offset off&&Nat.beq (P.cellsOf f.type) l1.length) with
    | false=>rw[hc] at h;cases h
    | true=>
     rw[hc] at h
     simp only[cond_true,Option.some.injEq] at h
     subst h
     simp only[Bool.and_eq_true] at hc
     have h1:=Nat.eq_of_beq_eq_true hc.1
     have h2:=Nat.eq_of_beq_eq_true hc.2
     rw[List.length_append] at hle
     cases xs with
     | nil=>simp at hl
     | cons x xs=>
      have hx0:=hx 0 f rfl
      rw[h1,h2] at hx0
      simp only[List.getElem?_cons_zero] at hx0
      obtain⟨d1,e1,e2⟩:=hg f.type l1 ag _ x hgf hx0
      obtain⟨d2,e3,e4⟩:=ZlV (cs:=cs) hg fs (off+l1.length) r xs hr (by simpa using hl) (by omega) (fun i f' hf'=>by simpa using hx (i+1) f' (by simpa using hf'))
      refine⟨d1++d2,?_,Zmd _ _ _ _ e2 e4⟩
      have hspl:(cs.drop off).take (l1++r).length=(cs.drop off).take l1.length++(cs.drop (off+l1.length)).take r.length:=by
       rw[List.length_append,List.take_add,List.drop_drop]
      rw[hspl]
      exact Zmh _ _ _ _ e1 e3
theorem Zlr:∀(n:Nat) (t:TypeId) (l:List Lf) (ag:Bool),lfs P n t=some (l,ag)→∀(fuel:Nat) (cs:List Value) (x:DataW H×List MemPlace),DataW.trod enc P W 0 sp held fuel t cs=some x →
  ∃ds,ZaD All All All W ds cs∧ZeW l ds∧(ag=false→∃u y,cs=[u]∧ds=[y]∧u.cells = #[u]∧y.isAgg=false)
 | 0,t,l,ag,h,fuel,cs,x,hx=>by cases h
 | n+1,t,l,ag,h,fuel,cs,x,hx=>by
  simp only[lfs] at h
  split at h
  ·rename_i ht
   cases h
   obtain⟨b,rfl,_⟩:=DataW.trod_bool ht hx
   exact⟨[.bool b],⟨_,_,rfl,rfl,rfl⟩,⟨_,_,rfl,⟨b,rfl⟩,rfl⟩,fun _=>⟨_,_,rfl,rfl,rfl,rfl⟩⟩
  ·rename_i k ht
   cases h
   obtain⟨m,rfl,_,hw⟩:=DataW.trod_int ht hx
   exact⟨[.int k m],⟨_,_,rfl,rfl,rfl⟩,⟨_,_,rfl,⟨m,rfl,hw⟩,rfl⟩,fun _=>⟨_,_,rfl,rfl,rfl,rfl⟩⟩
  ·rename_i ht
   cases h
   obtain⟨s,rfl,_,hs⟩:=DataW.trod_string ht hx
   exact⟨[.str s],⟨_,_,rfl,rfl,rfl⟩,⟨_,_,rfl,⟨s,rfl,hs⟩,rfl⟩,fun _=>⟨_,_,rfl,rfl,rfl,rfl⟩⟩
  ·rename_i e ht
   cases he:lfs P n e with
   | none=>rw[he] at h;cases h
   | some q=>
    obtain⟨le,age⟩:=q
    rw[he] at h
    dsimp only at h
    cases hc:(Nat.beq (P.cellsOf e) le.length&&Nat.blt 0 le.length) with
    | false=>rw[hc] at h;cases h
    | true=>
     rw[hc] at h
     simp only[cond_true,Option.some.injEq,Prod.mk.injEq] at h
     obtain⟨rfl,rfl⟩:=h
     simp only[Bool.and_eq_true] at hc
     have hsz:=Nat.eq_of_beq_eq_true hc.1
     have hpos:0<le.length:=by have:=hc.2;simp[Nat.blt] at this;omega
     rcases Go.Deep.open_slice ht hx with⟨rfl,_⟩ | ⟨a,len,cap,m,fu,Dd,Pl,rfl,_,hlc,hcap,hm,_,hel⟩
     ·exact⟨[.list true []],⟨_,_,rfl,⟨_,0,0,rfl,rfl,Nat.le_refl _,by simp,by simp⟩,rfl⟩,⟨_,_,rfl,⟨[],rfl,by simp,by simp⟩,rfl⟩,fun _=>⟨_,_,rfl,rfl,rfl,rfl⟩⟩
     ·rw[hsz] at hel
      have hlm:len≤m:=by rw[hm];split<;>omega
      have each:∀i,i<len→∃y u,ZaR All All All W y u∧y.isAgg=age∧ZeW le y.cells∧u.cells.size=le.length∧(∀k v,u.cells[k]? = some v→W.cell? ((a.add (i*le.length)).add k)=some v)∧y.esc=true:=fun i hi=>by
       obtain⟨cs',h1,h2⟩:=hel i (by omega)
       obtain⟨c1,c2⟩:=ZnC h1
       obtain⟨ds,d1,d2,d3⟩:=Zlr n e le age he fu cs' _ h2
       obtain⟨s1,s2⟩:=Zms _ _ d2
       cases age with
       | true=>
        refine⟨.agg ds,.agg cs'.toArray,⟨cs',rfl,d1⟩,rfl,d2,by simpa [Value.cells] using c1,fun k v hk=>?_,s1⟩
        have hk':cs'[k]? = some v:=by simpa [Value.cells] using hk
        rw[c2 k (by rw[← c1];exact(List.getElem?_eq_some_iff.1 hk').1)];exact hk'
       | false=>
        obtain⟨u,y,rfl,rfl,e1,e2⟩:=d3 rfl
        obtain⟨u',us',f1,f2,_⟩:=d1
        cases f1
        have hy:y.cells=[y]:=by
         cases y<;>first | rfl | (simp[D.isAgg] at e2)
        have hesc:y.esc=true:=by
         match le,d2,hpos with
         | l0 :: ls,d2,_=>
          obtain⟨d,r,g1,g2,_⟩:=d2
          cases g1
          exact(Zn1 l0 y g2).1
        refine⟨y,u,f2,e2,by rw[hy];exact d2,by rw[e1,← c1];rfl,fun k v hk=>?_,hesc⟩
        rw[e1] at hk
        have hk0:k=0:=by
         have:=(Array.getElem?_eq_some_iff.1 hk).1;simp at this;exact this
        subst hk0
        simp at hk;subst hk
        rw[c2 0 (by omega)];rfl
      have all:∀j,j≤len→∃ys:List D,ys.length=j∧(∀y∈ys,y.isAgg=age∧ZeW le y.cells∧y.esc=true)∧∀(i:Nat) y,ys[i]? = some y→∃u,ZaR All All All W y u∧u.cells.size=le.length∧∀k v,u.cells[k]? = some v→W.cell? ((a.add (i*le.length)).add k)=some v:=by
       intro j
       induction j with
       | zero=>intro _;exact⟨[],rfl,by simp,by simp⟩
       | succ j ih=>
        intro hj
        obtain⟨ys,y1,y2,y3⟩:=ih (by omega)
        obtain⟨y,u,z1,z2,z3,z4,z5,z6⟩:=each j (by omega)
        refine⟨ys++[y],by simp[y1],fun z hz=>?_,fun i z hz=>?_⟩
        ·rcases List.mem_append.1 hz with hz | hz
         ·exact y2 z hz
         ·simp at hz;subst hz;exact⟨z2,z3,z6⟩
        ·by_cases hi:i<ys.length
         ·rw[List.getElem?_append_left hi] at hz;exact y3 i z hz
         ·rw[List.getElem?_append_right (by omega)] at hz
          have hij:i-ys.length=0:=by
           have:=(List.getElem?_eq_some_iff.1 hz).1;simp at this;omega
          rw[hij] at hz
          simp at hz;subst hz
          have:i=j:=by omega
          subst this
          exact⟨u,z1,z4,z5⟩
      obtain⟨ys,y1,y2,y3⟩:=all len (Nat.le_refl _)
      refine⟨[.list true ys],⟨_,_,rfl,⟨_,len,cap,rfl,y1.symm,hlc,fun z hz=>(y2 z hz).2.2,fun hne=>?_⟩,rfl⟩,⟨_,_,rfl,⟨ys,rfl,by omega,fun z hz=>⟨(y2 z hz).1,(y2 z hz).2.1⟩⟩,rfl⟩,fun _=>⟨_,_,rfl,rfl,rfl,rfl⟩⟩
      have hlen:0<len:=by
       rw[← y1];exact List.length_pos_iff.2 hne
      obtain⟨cs0,h1,_⟩:=hel 0 (by omega)
      obtain⟨c1,c2⟩:=ZnC h1
      have c3:=c2 0 hpos
      have hcell:∃v,W.cell? a=some v:=by
       refine⟨cs0[0]'(by omega),?_⟩
       have e0:(a.add (0*le.length)).add 0=a:=by simp[Addr.add]
       rw[e0] at c3
       rw[c3];exact List.getElem?_eq_getElem (by omega)
      obtain⟨v,hv⟩:=hcell
      have hspot:a.spot=none∧a.block<W.heap.size:=by
       unfold World.cell? at hv
       split at hv
       ·rename_i hb
        cases hsx:a.spot with
        | none=>exact⟨rfl,(Array.getElem?_eq_some_iff.1 hb).1⟩
        | some z=>rw[hsx] at hv;simp at hv
       ·cases hv
      obtain⟨b,off,spot⟩:=a
      obtain⟨hs1,hs2⟩:=hspot
      simp only at hs1 hs2
      subst hs1
      refine⟨b,off,le.length,rfl,trivial,hs2,ZgJ ys off fun j y hj=>?_⟩
      obtain⟨u,u1,u2,u3⟩:=y3 j y hj
      refine⟨u,u1,u2,fun k v hk=>?_⟩
      rw[← u3 k v hk]
      congr 1
      unfold Addr.add
      by_cases hj0:j*le.length=0
      ·by_cases hk0:k=0<;>simp[hj0,hk0]
      ·by_cases hk0:k=0<;>simp[hj0,hk0]
  ·rename_i fs ht
   cases hf:ZgZ P (lfs P n) 0 fs.toList with
   | none=>rw[hf] at h;cases h
   | some l'=>
    rw[hf] at h
    dsimp only at h
    cases hc:Nat.beq (P.cellsOf t) l'.length with
    | false=>rw[hc] at h;cases h
    | true=>
     rw[hc] at h
     simp only[cond_true,Option.some.injEq,Prod.mk.injEq] at h
     obtain⟨rfl,rfl⟩:=h
     have hcl:=Nat.eq_of_beq_eq_true hc
     obtain⟨xs,m,_,_,hlen,hxl,hxs⟩:=DataW.trod_struct ht hx
     have hlen':cs.length=l'.length:=hlen.trans hcl
     obtain⟨ds,e1,e2⟩:=ZlV (m:=m) (cs:=cs) (g:=lfs P n) (fun t l ag cs x hg hx=>by
      obtain⟨ds,d1,d2,_⟩:=Zlr n t l ag hg m cs x hx
      exact⟨ds,d1,d2⟩) fs.toList 0 l' xs hf (by simpa using hxl) (by omega) (fun i f hf'=>hxs i f (by simpa using hf'))
     refine⟨ds,?_,e2,fun h=>by cases h⟩
     have:(cs.drop 0).take l'.length=cs:=by rw[List.drop_zero,List.take_of_length_le (by omega)]
     rw[this] at e1;exact e1
  ·cases h
def ZnN (ag:Bool) (ds:List D):D:=match ag,ds with | true,ds=>.agg ds | false,d :: _=>d | false,[]=>.nilp
theorem ZqF {n:Nat}{t:TypeId}{l:List Lf}{ag:Bool} (h:lfs P n t=some (l,ag)) {base:Nat}{v:Value}{d:DataW H}{ps:List MemPlace} (hv:Value.okWide P W .any base t v) (hx:DataW.Trod enc P W 0 sp held t v d ps) :
  ∃ds,ZeW l ds∧ZaR All All All W (ZnN ag ds) v:=by
 obtain⟨fuel,hf⟩:=hx
 obtain⟨ds,d1,d2,d3⟩:=Zlr n t l ag h fuel _ _ hf
 refine⟨ds,d2,?_⟩
 have one:ag=false→v.cells = #[v]→ZaR All All All W (ZnN ag ds) v:=fun hag hc=>by
  subst hag
  obtain⟨u,y,e1,rfl,_,_⟩:=d3 rfl
  rw[hc] at e1
  cases e1
  obtain⟨u',us',f1,f2,_⟩:=d1
  rw[hc] at f1
  cases f1
  exact f2
 cases n with
 | zero=>cases h
 | succ n=>
  simp only[lfs] at h
  split at h
  ·rename_i ht
   cases h
   obtain⟨b,rfl⟩:=Go.WideShapes.okWide_bool ht hv
   exact one rfl rfl
  ·rename_i k ht
   cases h
   obtain⟨b,rfl⟩:=Go.WideShapes.okWide_int ht hv
   exact one rfl rfl
  ·rename_i ht
   cases h
   obtain⟨b,rfl⟩:=Go.WideShapes.okWide_string ht hv
   exact one rfl rfl
  ·rename_i e ht
   obtain⟨a,len,cap,rfl⟩:=Go.WideShapes.okWide_slice ht hv
   split at h
   ·rename_i le age hq
    cases hc:(Nat.beq (P.cellsOf e) le.length&&Nat.blt 0 le.length) with
    | false=>rw[hc] at h;cases h
    | true=>rw[hc] at h;cases h;exact one rfl rfl
   ·cases h
  ·rename_i fs ht
   obtain⟨cs,rfl,_⟩:=Go.WideShapes.okWide_struct ht hv
   split at h
   ·rename_i q hq
    cases hc:Nat.beq (P.cellsOf t) q.length with
    | false=>rw[hc] at h;cases h
    | true=>
     rw[hc] at h
     cases h
     exact⟨cs.toList,by simp,by simpa [Value.cells] using d1⟩
   ·cases h
  ·cases h
end
end Go.Proofs.YtnpidpcmpleiaaaDoorE
namespace Go.Proofs.YtnpidpcmpleiaaaDoorE
open Go
set_option linter.unusedVariables false
set_option linter.unusedSimpArgs false
def R0:RP:={ B1:=fun _=>False,B0:=fun _=>False,M:=fun _=>none,H:=[] }
section
variable {P:Program} {G:Za9} {Γ:Ctx} {W:World}
theorem Zhe (c:Nat):¬R0.live c:=by
 rintro ⟨i,h,_⟩
 simp[R0,Z1,nth] at h
theorem ZuG:R0.OK W where
 b01:=fun c h=>h.elim
 al:=fun i blk h=>by simp[R0] at h
 inj:=fun i j c h=>by simp[R0,Z1,nth] at h
 lt:=fun i c h=>by cases h
 blk:=fun i m blk h=>by simp[R0] at h
 nb:=fun i c h=>by simp[R0,Z1,nth] at h
 bl:=fun c h=>h.elim
theorem ZtL {x:D}{u:Value} (h:ZaR All All All W x u):R0.den W x u:=
 ZaR.change _ _ _ _ (fun b _ _=>⟨Zhe b,fun h=>h⟩) (fun b _ _=>⟨Zhe b,fun h=>h⟩) (fun b _ _=>Zhe b) (fun _ _ _=>rfl) (Nat.le_refl _) (fun _ _=>trivial) (fun _ _=>trivial) x u h
theorem Zsf {xs:List D}{us:List Value} (h:ZaD All All All W xs us):Zat R0 W (Zcf xs) us:=
 (ZcC xs us).2 (ZaD.change _ _ _ _ (fun b _ _=>⟨Zhe b,fun h=>h⟩) (fun b _ _=>⟨Zhe b,fun h=>h⟩) (fun b _ _=>Zhe b) (fun _ _ _=>rfl) (Nat.le_refl _) (fun _ _=>trivial) (fun _ _=>trivial) xs us h)
theorem ZpY (hs:Zel P G (evW Γ)) (hg:GOK G R0 W) {f:Nat}{xs:List D}{us:List Value} (hd:ZaD All All All W xs us) {H':Zi} (he:evW Γ f (Zcf xs) []=some (.d (.bool true),H')) :
  Calls P f us.toArray W fun e W'=>e = .returned (.bool true)∧Go.RowKit.Below W.heap.size W W':=by
 obtain⟨_,h⟩:=hs f (Zcf xs) [] _ _ he
 refine(h R0 W us ZuG hg rfl (fun i _=>rfl) (Zsf hd)).mono fun e W' ⟨u,h1,R',x,ok,hH,hv,_,_⟩=>?_
 have hu:u = .bool true:=hv
 subst hu
 exact⟨h1,⟨x.os,x.tape,x.output,x.grow,fun k hk=>x.same k hk (Zhe k)⟩⟩
def ZiO (l:List (IntKind×Int)):List (DataW Unit):=l.map fun q=>.lit (.int q.1 q.2)
theorem Zn9 {n:String}{d:DataW Unit}:∀{L:List (String×DataW Unit)}{ps:List MemPlace},DataW.LaidVars P W L ps→(n,d)∈L →
  ∃g t cs fuel p,P.globalNamed n=some g∧(P.globals[g]?).map (·.type)=some t∧W.var? P n=some cs∧DataW.trod (fun _=>()) P W 0 (fun _=>true) false fuel t cs.toList=some (d,p)
 | [],_,_,h=>by cases h
 | (m,e) :: L,ps,h,hm=>by
  obtain⟨g,t,cs,fuel,p,q,h1,h2,h3,h4,h5,_⟩:=h
  rcases List.mem_cons.1 hm with hm | hm
  ·cases hm;exact⟨g,t,cs,fuel,p,h1,h2,h3,h4⟩
  ·exact Zn9 h5 hm
theorem Zlo {L:List (String×DataW Unit)} (h:laidMetH P L W) (hl:(L.all fun x=>x.2.handleName?.isNone)=true) {n:String}{l:List (IntKind×Int)} (hm:(n,DataW.agg (ZiO l))∈L) {g t N e:Nat}{k:IntKind}
  (hg:P.globalNamed n=some g) (ht:(P.globals[g]?).map (·.type)=some t) (hu:P.underlying t=some (.array N e)) (he:P.underlying e=some (.int k)) (hc:P.cellsOf e=1) (hN:l.length=N) (hne:0<N) :
  R0.den W (.rptr (gD l)) (.pointer (some ⟨g,0,none⟩)):=by
 rw[MakeChecks.laidMetH_plain _ _ _ hl] at h
 obtain⟨ps,hL,_,_⟩:=h
 obtain⟨g',t',cs,fuel,p,h1,h2,h3,h4⟩:=Zn9 hL hm
 obtain rfl:=Option.some.inj (hg.symm.trans h1)
 obtain rfl:=Option.some.inj (ht.symm.trans h2)
 obtain⟨xs,m,_,hx,hlen,hxn,hel⟩:=DataW.trod_array hu h4
 have hmap:ZiO l=xs.map (·.1):=by
  have:=(Prod.mk.inj hx).1
  exact DataW.agg.inj this
 have cell:∀(i:Nat) q,l[i]? = some q→W.cell? ⟨g,i,none⟩=some (.int q.1 q.2):=fun i q hq=>by
  have hi:i<N:=by rw[← hN];exact(List.getElem?_eq_some_iff.1 hq).1
  have hi2:i<xs.length:=by omega
  have e1:=hel i hi
  rw[List.getElem?_eq_getElem hi2] at e1
  obtain⟨z,z1,z2,_⟩:=DataW.trod_int he e1
  have e3:(ZiO l)[i]? = some (xs[i]'hi2).1:=by rw[hmap];simp[hi2]
  rw[z2] at e3
  have e4:(ZiO l)[i]? = some (.lit (.int q.1 q.2)):=by simp[ZiO,hq]
  rw[e4] at e3
  have e5:q.1=k∧q.2=z:=by
   have:=Option.some.inj e3
   simpa using this
  rw[World.var?_cell h1 h3 i,hc] at *
  have e6:(cs.toList.drop (i*1)).take 1=[.int k z]:=z1
  have e7:cs.toList[i]? = some (.int k z):=by
   have:(cs.toList.drop (i*1))[0]? = some (.int k z):=by
    have h8:((cs.toList.drop (i*1)).take 1)[0]? = some (.int k z):=by rw[e6];rfl
    rwa [List.getElem?_take_of_lt (by omega)] at h8
   simpa using this
  rw[e5.1,e5.2]
  simpa using e7
 have hb:g<W.heap.size:=by
  have:=cell 0 (l[0]'(by omega)) (List.getElem?_eq_getElem (by omega))
  unfold World.cell? at this
  split at this
  ·rename_i hb;exact(Array.getElem?_eq_some_iff.1 hb).1
  ·cases this
 have gd:∀(l:List (IntKind×Int)) (i:Nat) x,(gD l)[i]? = some x→∃q,l[i]? = some q∧x = .int q.1 q.2:=by
  intro l
  induction l with
  | nil=>intro i x h;simp[gD] at h
  | cons a r ih=>
   intro i x h
   obtain⟨k,z⟩:=a
   cases i with
   | zero=>simp[gD] at h;exact⟨(k,z),rfl,h.symm⟩
   | succ i=>simpa using ih i x (by simpa [gD] using h)
 refine ZtL ⟨g,0,rfl,trivial,hb,Zfi _ _ fun j x hj=>?_⟩
 obtain⟨q,q1,rfl⟩:=gd l j x hj
 exact⟨_,by rw[Nat.zero_add];exact cell j q q1,rfl⟩
end
end Go.Proofs.YtnpidpcmpleiaaaDoorE
namespace Go.Proofs.YtnpidpcmpleiaaaDoorE
open Go
set_option linter.unusedVariables false
set_option linter.unusedSimpArgs false
noncomputable def bnd {α β:Type} (x:Option α) (k:α→Option β):Option β:=@dite _ (∃a,x=some a) (Classical.propDecidable _) (fun h=>k (Classical.choose h)) fun _=>none
theorem ZdP {α β:Type} (x:Option α) (k:α→Option β):bnd x k=(match x with | some a=>k a | none=>none):=by
  unfold bnd
  cases x with
  | none=>exact dif_neg (fun⟨a,h⟩=>by cases h)
  | some a=>
    have h:∃b,some a=some b:=⟨a,rfl⟩
    rw[dif_pos h]
    have:=Classical.choose_spec h
    rw[← Option.some.inj this]
theorem Zh0 {α β:Type} (a:α) (k:α→Option β):bnd (some a) k=k a:=ZdP _ _
section
variable {β:Type}
def Zvs:List Nat:=[0,1,2,3,4,5,6,7,8,9,10,11,12,13,14,15,16,17,18,19,20,21,22,23,24,25,26,27,28,29,30,31,32,33,34,35,36,37,38,39,40,41,42,43,44,45,46,47,48,49,50,51,52,53,54,55,56,57,58,59,60,61,62,63]
def fgo (n:Nat) (k:Nat→Option β):List Nat→Option β
  | []=>k n
  | a :: l=>match Nat.beq n a with | true=>k a | false=>fgo n k l
def Zc0 (n:Nat) (k:Nat→Option β):Option β:=fgo n k Zvs
def Zgm (v:V) (k:V→Option β):Option β:=
  match v with
  | .d x=>k (.d x) | .bad=>k .bad | .ptr b o=>Zc0 b fun b=>Zc0 o fun o=>k (.ptr b o) | .eptr b sz i j=>Zc0 b fun b=>Zc0 j fun j=>k (.eptr b sz i j)
  | .sl b sz=>Zc0 b fun b=>k (.sl b sz) | .slp b sz o l=>Zc0 b fun b=>k (.slp b sz o l) | .nilsl sz=>k (.nilsl sz)
  | .agg cs=>k (.agg cs) | .tup cs=>k (.tup cs) | .fn f cs=>k (.fn f cs) | .mp b=>Zc0 b fun b=>k (.mp b)
def ZgN (l:List V) (k:List V→Option β):Option β:=
  match l with
  | []=>k []
  | v :: vs=>Zgm v fun v=>ZgN vs fun vs=>k (v :: vs)
def ZmD (v:V) (k:V→Option β):Option β:=
  match v with
  | .d x=>k (.d x) | .bad=>k .bad | .ptr b o=>Zgm (.ptr b o) k | .eptr b sz i j=>Zgm (.eptr b sz i j) k
  | .sl b sz=>Zgm (.sl b sz) k | .slp b sz o l=>Zgm (.slp b sz o l) k | .nilsl sz=>k (.nilsl sz)
  | .agg cs=>ZgN cs fun cs=>k (.agg cs) | .tup cs=>ZgN cs fun cs=>k (.tup cs) | .fn f cs=>ZgN cs fun cs=>k (.fn f cs) | .mp b=>Zgm (.mp b) k
def Zf4 (l:List V) (k:List V→Option β):Option β:=
  match l with
  | []=>k []
  | v :: vs=>ZmD v fun v=>Zf4 vs fun vs=>k (v :: vs)
def Zon (b:Blk) (k:Blk→Option β):Option β:=
  match b with
  | .dead=>k .dead | .cells cs=>Zf4 cs fun cs=>k (.cells cs) | .arr sz xs=>k (.arr sz xs) | .mp es=>k (.mp es)
def Zhw (H:Zi) (k:Zi→Option β):Option β:=
  match H with
  | []=>k []
  | b :: bs=>Zon b fun b=>Zhw bs fun bs=>k (b :: bs)
theorem Zrq (n:Nat) (k:Nat→Option β):∀(l:List Nat),fgo n k l=k n
  | []=>rfl
  | a :: l=>by
    unfold fgo
    cases h:Nat.beq n a with
    | true=>rw[Nat.eq_of_beq_eq_true h]
    | false=>exact Zrq n k l
theorem Zc8 (n:Nat) (k:Nat→Option β):Zc0 n k=k n:=Zrq n k _
theorem ZkJ (v:V) (k:V→Option β):Zgm v k=k v:=by cases v<;>simp[Zgm,Zc8]
theorem Zke:∀(l:List V) (k:List V→Option β),ZgN l k=k l
  | [],k=>rfl
  | v :: vs,k=>by unfold ZgN;rw[ZkJ,Zke vs]
theorem ZmC (v:V) (k:V→Option β):ZmD v k=k v:=by cases v<;>simp[ZmD,ZkJ,Zke]
theorem ZfV:∀(l:List V) (k:List V→Option β),Zf4 l k=k l
  | [],k=>rfl
  | v :: vs,k=>by unfold Zf4;rw[ZmC,ZfV vs]
theorem ZpV (b:Blk) (k:Blk→Option β):Zon b k=k b:=by cases b<;>simp[Zon,ZfV]
theorem ZgL:∀(l:Zi) (k:Zi→Option β),Zhw l k=k l
  | [],k=>rfl
  | v :: vs,k=>by unfold Zhw;rw[ZpV,ZgL vs]
def ZgX (l:List Nat) (k:List Nat→Option β):Option β:=
  match l with
  | []=>k []
  | a :: l=>Zc0 a fun a=>ZgX l fun l=>k (a :: l)
theorem ZgV:∀(l:List Nat) (k:List Nat→Option β),ZgX l k=k l
  | [],k=>rfl
  | a :: l,k=>by unfold ZgX;rw[Zc8,ZgV l]
def Zib (H:Zi) (l:List Nat) (bs:List Nat) (k:List Nat→Option β):Option β:=
  match bs with
  | []=>k l
  | b :: bs=>(match Zfy l b || !(Z1 H b) with
    | true=>Zib H l bs k
    | false=>ZgX (l++[b]) fun l=>Zib H l bs k)
theorem ZgW (H:Zi):∀(bs l:List Nat) (k:List Nat→Option β),Zib H l bs k=k (Zem H l bs)
  | [],l,k=>rfl
  | b :: bs,l,k=>by
    unfold Zib Zem
    cases h:(Zfy l b || !(Z1 H b)) with
    | true=>exact ZgW H bs l k
    | false=>simp only[ZgV,cond_false];exact ZgW H bs _ k
def Zm0 (H:Zi) (n i:Nat) (l:List Nat) (k:List Nat→Option β):Option β:=
  match n with
  | 0=>k l
  | n+1=>(match nth l i with
    | some b=>ZgX (Zpi H b) fun bs=>Zib H l bs fun l=>Zc0 (i+1) fun i=>Zm0 H n i l k
    | none=>k l)
theorem Zl5 (H:Zi):∀(n i:Nat) (l:List Nat) (k:List Nat→Option β),Zm0 H n i l k=k (ZhS H n i l)
  | 0,i,l,k=>rfl
  | n+1,i,l,k=>by
    unfold Zm0 ZhS
    cases h:nth l i with
    | none=>rfl
    | some b=>simp only[ZgV,Zc8,ZgW];exact Zl5 H n (i+1) _ k
def Zev (m:Nat) (vs:List V) (H:Zi) (k:List Nat→List V→Zi→Option β):Option β:=
  Zf4 vs fun vs=>ZgX (Zi4 m) fun u=>ZgX (ZfO vs) fun r=>Zib H u r fun l=>Zm0 H (H.length+1) 0 l fun L=>
    (match ZiZ L&&ZlJ H.length L with
    | true=>Zf4 (ZfR (fun b=>idx L b 0) vs) fun vs=>Zhw (pick H (fun b=>idx L b 0) L) fun H=>k L vs H
    | false=>none)
theorem ZcM (m:Nat) (vs:List V) (H:Zi) (k:List Nat→List V→Zi→Option β):Zev m vs H k=(match extract m vs H with | some (L,vs,H)=>k L vs H | none=>none):=by
  unfold Zev extract Zjg
  simp only[ZfV,ZgV,ZgW,Zl5,ZgL]
  cases (ZiZ (ZhS H (H.length+1) 0 (Zem H (Zi4 m) (ZfO vs)))&&ZlJ H.length (ZhS H (H.length+1) 0 (Zem H (Zi4 m) (ZfO vs))))<;>rfl
def ZiF (n:Nat) (vs:List V) (k:List V→List Blk→Option β):Option β:=
  match vs with
  | []=>k [] []
  | v :: vs=>(match v with
    | .nilsl sz=>(match Nat.blt 0 sz with
      | true=>Zc0 (n+1) fun n1=>ZiF n1 vs fun vs bs=>k (.sl n sz :: vs) (.arr sz [] :: bs)
      | false=>ZiF n vs fun vs bs=>k (.nilsl sz :: vs) bs)
    | v=>ZiF n vs fun vs bs=>k (v :: vs) bs)
theorem Zgw:∀(vs:List V) (n:Nat) (k:List V→List Blk→Option β),ZiF n vs k=k (ZbI n vs).1 (ZbI n vs).2
  | [],n,k=>rfl
  | v :: vs,n,k=>by
    unfold ZiF
    split
    · rename_i sz
      simp only[ZbI]
      cases h:Nat.blt 0 sz with
      | true=>simp only[Zc8,cond_true];exact Zgw vs (n+1) _
      | false=>exact Zgw vs n _
    · rename_i h
      rw[Zgw vs n]
      cases v<;>first | rfl | exact absurd rfl (h _)
def Zjw (n:Nat) (H:Zi) (k:Zi→List Blk→Option β):Option β:=
  match H with
  | []=>k [] []
  | b :: H=>(match b with
    | .cells cs=>ZiF n cs fun cs bs=>Zc0 (n+bs.length) fun n1=>Zjw n1 H fun H q=>k (.cells cs :: H) (bs++q)
    | b=>Zjw n H fun H q=>k (b :: H) q)
theorem ZiJ:∀(H:Zi) (n:Nat) (k:Zi→List Blk→Option β),Zjw n H k=k (Zce n H).1 (Zce n H).2
  | [],n,k=>rfl
  | b :: H,n,k=>by
    unfold Zjw
    cases b<;>first | exact ZiJ H n _ | skip
    rename_i cs
    simp only[Zgw,Zc8,Zce]
    exact ZiJ H _ _
def Zk2 (m:Nat) (vs:List V) (H:Zi) (k:List V→Zi→Option β):Option β:=
  Zev m vs H fun _ vs1 H1=>ZiF H1.length vs1 fun vs2 bs=>Zc0 (H1.length+bs.length) fun n=>Zjw n H1 fun H2 q=>Zhw (H2++(bs++q)) fun H2=>Zev m vs2 H2 fun _ vs3 H3=>k vs3 H3
theorem ZnM (m:Nat) (vs:List V) (H:Zi) (k:List V→Zi→Option β):Zk2 m vs H k=(match Zkh m vs H with | some (vs,H)=>k vs H | none=>none):=by
  unfold Zk2 Zkh
  rw[ZcM]
  cases h:extract m vs H with
  | none=>rfl
  | some p=>
    obtain⟨L,vs1,H1⟩:=p
    simp only[Zgw,Zc8,ZiJ,ZgL,ZcM]
    cases extract m (ZbI H1.length vs1).1 ((Zce (H1.length+(ZbI H1.length vs1).2.length) H1).1++((ZbI H1.length vs1).2++(Zce (H1.length+(ZbI H1.length vs1).2.length) H1).2))<;>rfl
noncomputable def br (c:Bool) (x y:Option β):Option β:=@ite _ (c=true) (Classical.propDecidable _) x y
theorem Zde (c:Bool) (x y:Option β):br c x y=bif c then x else y:=by
  unfold br
  cases c with
  | true=>exact if_pos rfl
  | false=>exact if_neg (by simp)
def brL (c:Bool) (x y:Option β):Option β:=match c with | true=>x | false=>y
noncomputable def ZhK (c:Bool) (k:V→Option β):Option β:=br c (k (.d (.bool true))) (k (.d (.bool false)))
theorem ZgD (c:Bool) (k:V→Option β):ZhK c k=k (.d (.bool c)):=by
  unfold ZhK
  rw[Zde]
  cases c<;>rfl
noncomputable def Zl6 (v:V) (k:V→Option β):Option β:=match v with | .d (.bool c)=>ZhK c k | v=>k v
theorem ZnZ (v:V) (k:V→Option β):Zl6 v k=k v:=by
  unfold Zl6
  split
  · exact ZgD _ _
  · rfl
noncomputable def ZrN (x:D) (k:V→Option β):Option β:=match x with | .bool c=>ZhK c k | .tup ts=>k (.tup (Zcf ts)) | x=>k (.d x)
abbrev K3 (β:Type):=V→List (Nat×Blk)→List Blk→Option β
noncomputable def Zsp (op:BinOp) (x y:V) (k:V→Option β):Option β:=
  match op,x,y with
  | .quo,.d (.int i a),.d (.int j b)=>(match i==j with | true=>br (b==0) none (k (.d (.int i (i.wrap (a.tdiv b))))) | false=>none)
  | .rem,.d (.int i a),.d (.int j b)=>(match i==j with | true=>br (b==0) none (k (.d (.int i (a.tmod b)))) | false=>none)
  | .shl,.d (.int i a),.d (.int _ b)=>br (decide (b<0)) none (k (.d (.int i (i.wrap (a*2 ^ (min b.toNat i.bits))))))
  | .shr,.d (.int i a),.d (.int _ b)=>br (decide (b<0)) none (k (.d (.int i (a.fdiv (2 ^ (min b.toNat i.bits))))))
  | op,x,y=>match ZjU op x y with | some (.bool c)=>ZhK c k | some r=>k (.d r) | none=>none
noncomputable def Zo5 (H:Zi) (n:Nat) (ag:Bool) (x:V) (k:V→Option β):Option β:=
  match x with
  | .eptr b sz i j=>(match nth H b with
    | some (.arr sz' xs)=>(match Nat.beq sz sz' with
      | true=>bnd (nth xs i) fun x=>(match ZdB n ag (Zcf (x.cells.drop j)) with | some v=>Zl6 v k | none=>none)
      | false=>none)
    | _=>none)
  | x=>match ZcE H n ag x with | some v=>Zl6 v k | none=>none
noncomputable def Zm8 (H:Zi) (n:Nat) (x v:V) (k:K3 β):Option β:=
  match x with
  | .eptr b sz i j=>(match nth H b with
    | some (.arr sz' xs)=>(match Nat.beq sz sz' with
      | true=>bnd (nth xs i) fun x=>(match fr H 6 v with
        | some (y,ks)=>(match Zfy ks b with
          | true=>none
          | false=>(match Nat.beq y.cells.length n&&Nat.ble (j+n) x.cells.length&&(V.d y).okb&&(x.isAgg || !y.isAgg) with
            | true=>bnd (some (ZdV xs i (bif x.isAgg then .agg (Zac x.cells j y.cells) else y))) fun zs=>k .bad ((b,.arr sz zs) :: ks.map (fun j=>(j,.dead))) []
            | false=>none))
        | none=>none)
      | false=>none)
    | _=>none)
  | x=>match Zg8 H n x v with | some (a,b,c)=>k a b c | none=>none
noncomputable def ZmJ (nid:Nat) (H:Zi) (sz:Nat) (x y:V) (k:K3 β):Option β:=
  match elems H y with
  | none=>none
  | some ys=>
    br (Zhu sz ys 0) (match x with
    | .nilsl _=>br (Nat.ble ys.length lim) (bnd (some ys) fun zs=>k (.sl nid sz) [] [.arr sz zs]) none
    | .sl b sz'=>(match nth H b with
      | some (.arr sz'' xs)=>(match Nat.beq sz sz'&&Nat.beq sz sz'' with
        | true=>br (Nat.ble (xs.length+ys.length) lim) (bnd (some (xs++ys)) fun zs=>k (.sl nid sz) [(b,.dead)] [.arr sz zs]) none
        | false=>none)
      | _=>none)
    | .slp b sz' o len=>(match nth H b with
      | some (.arr sz'' xs)=>(match Nat.beq sz sz'&&Nat.beq sz sz'' with
        | true=>br (Nat.ble (o+len+ys.length) xs.length) (bnd (some (xs.take (o+len)++(ys++xs.drop (o+len+ys.length)))) fun zs=>bnd (some (len+ys.length)) fun n=>k (.slp b sz o n) [(b,.arr sz zs)] []) none
        | false=>none)
      | _=>none)
    | _=>none) none
noncomputable def Zjh (H:Zi) (sz:Nat) (x y:V) (k:V→Option β):Option β:=
  match x with
  | .nilsl _=>(match elems H y with
    | some ys=>br (Zhu sz ys 0) (br (Nat.ble ys.length lim) (bnd (some ys) fun zs=>k (.d (.list true zs))) none) none
    | none=>none)
  | _=>none
noncomputable def Zle (v:Option V) (dflt:Nat) (k:Nat→Option β):Option β:=
  match v with
  | none=>k dflt
  | some (.d (.int _ n))=>br (decide (0≤n)) (k n.toNat) none
  | _=>none
noncomputable def ZmO (H:Zi) (sz:Nat) (x:V) (lo hi mx:Option V) (k:V→Option β):Option β:=
  match elems H x with
  | none=>none
  | some xs=>
    Zle lo 0 fun l=>Zle hi xs.length fun h=>
      br (Nat.ble l h&&Nat.ble h xs.length)
        (match mx with
        | none=>(match x with
          | .d (.list own _)=>br (Nat.beq l 0 || Zhu sz xs l) (bnd (some ((xs.drop l).take (h-l))) fun zs=>k (.d (.list own zs))) none
          | .sl b sz'=>(match Nat.beq sz sz' with | true=>bnd (some l) fun l'=>bnd (some (h-l)) fun n=>k (.slp b sz l' n) | false=>none)
          | .slp b sz' o _=>(match Nat.beq sz sz' with | true=>bnd (some (o+l)) fun l'=>bnd (some (h-l)) fun n=>k (.slp b sz l' n) | false=>none)
          | .nilsl _=>k (.nilsl sz)
          | _=>none)
        | some m=>Zle (some m) 0 fun m=>br (Nat.beq m l&&Nat.beq m h) (k (.nilsl sz)) none)
        none
noncomputable def ZmS (H:Zi) (sz:Nat) (x i:V) (k:V→Option β):Option β:=
  match i with
  | .d (.int _ i)=>(match x with
    | .d (.list _ xs)=>bnd (ZF xs i) fun x=>(match Nat.beq x.cells.length sz&&(V.d x).okb with | true=>k (.d (.rptr x.cells)) | false=>none)
    | .sl b sz'=>(match nth H b with
      | some (.arr sz'' xs)=>(match Nat.beq sz sz'&&Nat.beq sz sz'' with | true=>bnd (ZF xs i) fun _=>k (.eptr b sz i.toNat 0) | false=>none)
      | _=>none)
    | .slp b sz' o len=>(match nth H b with
      | some (.arr sz'' xs)=>(match Nat.beq sz sz'&&Nat.beq sz sz'' with | true=>bnd (ZF ((xs.drop o).take len) i) fun _=>k (.eptr b sz (o+i.toNat) 0) | false=>none)
      | _=>none)
    | _=>none)
  | _=>none
noncomputable def ZmH (len sz:Nat) (ag:Bool) (x i:V) (k:V→Option β):Option β:=
  match i with
  | .d (.int _ i)=>br (x.isAggV&&(decide (0≤i)&&decide (i<len))) (bnd (ZdB sz ag (x.cells.drop (i.toNat*sz))) k) none
  | _=>none
noncomputable def Zkm (H:Zi) (len sz:Nat) (x i:V) (k:V→Option β):Option β:=
  match i with
  | .d (.int _ i)=>br (decide (0≤i)&&decide (i<len)) (match Zg5 H (i.toNat*sz) x with | some v=>k v | none=>none) none
  | _=>none
noncomputable def Zkv (x i:V) (k:V→Option β):Option β:=
  match x,i with
  | .d (.str s),.d (.int _ i)=>br (decide (0≤i)) (bnd s[i.toNat]? fun b=>k (.d (.int .u8 b.toNat))) none
  | _,_=>none
noncomputable def ZlL (k:V→Option β) (r:V×Zi):Option β:=match fr r.2 6 r.1 with | some (x,_)=>ZrN x k | none=>none
noncomputable def Zj3 (Γ:Ctx) (cf:ZaY) (nid:Nat) (H:Zi) (f:Nat) (args:List V) (k:K3 β):Option β:=
  match Γ.mode f with
  | 0=>(match fzs H args with
    | some l=>Zf4 (Zcf l) fun l=>bnd (cf f l []) (ZlL fun v=>k v [] [])
    | none=>none)
  | 1=>(match fzs H args with
    | some l=>Zf4 (Zcf l) fun l=>bnd (cf f l []) fun r=>(match ZlM r.1&&Zit r.2 with | true=>k (Zje (fun j=>some (nid+j)) r.1) [] (r.2.map (ZfD (fun j=>some (nid+j)))) | false=>none)
    | none=>none)
  | _ => (Zev 0 args H fun L args' H0 => bnd (cf f args' H0) fun r => (match Zip r.1 && Zgs r.2 with
        | true=>k (Zje (fun j=>match nth L j with | some b=>some b | none=>some (nid+(j-L.length))) r.1)
          (L.zip (r.2.map (ZfD (fun j=>match nth L j with | some b=>some b | none=>some (nid+(j-L.length))))))
          ((r.2.drop L.length).map (ZfD (fun j=>match nth L j with | some b=>some b | none=>some (nid+(j-L.length)))))
        | false=>none))
noncomputable def Znd (H:Zi) (ks:List Bool) (m k v:V) (kk:K3 β):Option β:=
  match m,k,v with
  | .mp b,.d k,.d y=>(match nth H b with
    | some (.mp es)=>(match ZcK ks k&&Zfx y with | true=>bnd (ZgS es k y) fun l=>kk .bad [(b,.mp l)] [] | false=>none)
    | _=>none)
  | _,_,_=>none
noncomputable def Zna (H:Zi) (ks:List Bool) (z:D) (m k:V) (kk:K3 β):Option β:=
  match m,k with
  | .mp b,.d k=>(match nth H b with
    | some (.mp es)=>(match ZcK ks k with | true=>bnd (ZsA es k z) fun y=>kk (.d y) [] [] | false=>none)
    | _=>none)
  | _,_=>none
noncomputable def opK (Γ:Ctx) (cf:ZaY) (e:Env) (nid:Nat) (H:Zi) (o:O) (k:K3 β):Option β:=
  match o with
  | .mov x=>k (x.val e) [] []
  | .pick c a b=>(match c.val e with | .d (.bool t)=>brL t (k (a.val e) [] []) (k (b.val e) [] []) | _=>none)
  | .load n ag x=>Zo5 H n ag (x.val e) fun v=>k v [] []
  | .store n x v=>Zm8 H n (x.val e) (v.val e) k
  | .storek n x v _=>Zm8 H n (x.val e) (v.val e) k
  | .bin op x y=>Zsp op (x.val e) (y.val e) fun v=>k v [] []
  | .slice sz x lo hi mx=>ZmO H sz (x.val e) (lo.map (·.val e)) (hi.map (·.val e)) (mx.map (·.val e)) fun v=>k v [] []
  | .iaddr sz x i=>ZmS H sz (x.val e) (i.val e) fun v=>k v [] []
  | .index len sz ag x i=>ZmH len sz ag (x.val e) (i.val e) fun v=>k v [] []
  | .iaddrA len sz x i=>Zkm H len sz (x.val e) (i.val e) fun v=>k v [] []
  | .indexS x i=>Zkv (x.val e) (i.val e) fun v=>k v [] []
  | .append sz x y=>ZmJ nid H sz (x.val e) (y.val e) k
  | .appendD sz x y=>Zjh H sz (x.val e) (y.val e) fun v=>k v [] []
  | .eqv ks neg x y=>(match x.val e,y.val e with
    | .d a,.d b=>(match ZcK ks a with | true=>(match eqD a b with | some r=>ZhK (bif neg then !r else r) fun v=>k v [] [] | none=>none) | false=>none)
    | _,_=>none)
  | .un .not x=>(match x.val e with | .d (.bool b)=>brL b (k (.d (.bool false)) [] []) (k (.d (.bool true)) [] []) | _=>none)
  | .extract x i=>(match x.val e with
    | .tup vs=>(match nth vs i with | some (.d (.bool c))=>ZhK c fun v=>k v [] [] | some v=>k v [] [] | none=>none)
    | .d (.tup vs)=>(match nth vs i with | some (.bool c)=>ZhK c fun v=>k v [] [] | some v=>k (.d v) [] [] | none=>none)
    | _=>none)
  | .mkslice sz z n c=>(match n.val e,c.val e with
    | .d (.int _ n),.d (.int _ c)=>br (decide (0≤n)&&decide (n≤lim)&&decide (n==c))
        (bnd (some (List.replicate n.toNat (match z with | [x]=>x | z=>.agg z))) fun zs=>k (.sl nid sz) [] [.arr sz zs]) none
    | _,_=>none)
  | .len x=>(match elems H (x.val e) with | some xs=>bnd (some (xs.length:Int)) fun n=>k (.d (.int .i64 n)) [] [] | none=>none)
  | .call f args=>Zj3 Γ cf nid H f (ZdO e args) k
  | .callv x args=>(match Zhg (x.val e) with | some (f,caps)=>(match ZeG Γ (x.val e) f caps with | true=>none | false=>Zj3 Γ cf nid H (Ziq f) (Zj7 f caps (ZdO e args)) k) | none=>none)
  | .invoke tab x args=>(match x.val e with
    | .d (.iface t y)=>(match Ziw tab t with | some f=>Zj3 Γ cf nid H f (.d y :: ZdO e args) k | none=>none)
    | _=>none)
  | .callk f args _=>Zj3 Γ cf nid H f (ZdO e args) k
  | .spec id args=>(match H,ZhG (ZdO e args) with | [],some l=>bnd (Ziu id l) fun r=>k (.d r) [] [] | _,_=>none)
  | .nilq x=>(match elems H (x.val e) with | some xs=>br (Nat.blt 0 xs.length) (k (.d (.bool false)) [] []) none | none=>none)
  | .mapset ks m x v=>Znd H ks (m.val e) (x.val e) (v.val e) k
  | .mapget ks z m x=>Zna H ks z (m.val e) (x.val e) k
  | o=>match opE Γ cf e nid H o with | some (v,up,nw)=>Zl6 v fun v=>k v up nw | none=>none
def on3 (x:Res) (k:K3 β):Option β:=match x with | some (v,up,nw)=>k v up nw | none=>none
theorem Zjq (Γ:Ctx) (cf:ZaY) (nid:Nat) (H:Zi) (f:Nat) (args:List V) (k:K3 β):Zj3 Γ cf nid H f args k=on3 (ZeD Γ cf nid H f args) k:=by
  unfold Zj3 ZeD
  generalize Γ.mode f=m
  match m with
  | 0=>
    dsimp only
    simp only[ZdP]
    cases h1:fzs H args with
    | none=>rfl
    | some l=>
      simp only[ZfV]
      cases h2:cf f (Zcf l) [] with
      | none=>rfl
      | some r=>
        obtain⟨v,H1⟩:=r
        dsimp only[ZlL]
        cases h3:fr H1 6 v with
        | none=>rfl
        | some q => obtain ⟨x, ks⟩ := q; cases x <;> try rfl
                    exact ZgD _ (fun v=>k v [] [])
  | 1=>
    dsimp only
    simp only[ZdP]
    cases h1:fzs H args with
    | none=>rfl
    | some l=>
      simp only[ZfV]
      cases h2:cf f (Zcf l) [] with
      | none=>rfl
      | some r=>
        dsimp only
        cases h3:(ZlM r.1&&Zit r.2)<;>rfl
  | m+2=>
    dsimp only
    simp only[ZdP]
    rw[ZcM]
    cases h1:extract 0 args H with
    | none=>rfl
    | some q=>
      obtain⟨L,args',H0⟩:=q
      dsimp only
      cases h2:cf f args' H0 with
      | none=>rfl
      | some r=>
        dsimp only
        cases h3:(Zip r.1&&Zgs r.2)<;>rfl
theorem Zsa (op:BinOp) (x y:V) (k:V→Option β):Zsp op x y k=(match ZjU op x y with | some r=>k (.d r) | none=>none):=by
  unfold Zsp
  split
  · rename_i i a j b
    simp only[ZjU,Zsz]
    cases h:(i==j)<;>simp only[cond_true,cond_false,Zde]
    cases h2:(b==0)<;>rfl
  · rename_i i a j b
    simp only[ZjU,Zsz]
    cases h:(i==j)<;>simp only[cond_true,cond_false,Zde]
    cases h2:(b==0)<;>rfl
  · rename_i i a j b
    simp only[ZjU,shI,Zde]
    cases h:decide (b<0)<;>rfl
  · rename_i i a j b
    simp only[ZjU,shI,Zde]
    cases h:decide (b<0)<;>rfl
  · cases h:ZjU op x y with
    | none=>rfl
    | some r => cases r <;> try rfl
                exact ZgD _ _
theorem ZqU (H:Zi) (n:Nat) (ag:Bool) (x:V) (k:V→Option β):Zo5 H n ag x k=(match ZcE H n ag x with | some v=>k v | none=>none):=by
  unfold Zo5
  simp only[ZdP]
  simp only[ZnZ]
  split
  · rename_i b sz i j
    simp only[ZcE]
    cases h:nth H b with
    | none=>rfl
    | some blk=>
      cases blk<;>try rfl
      rename_i sz' xs
      dsimp only
      cases h2:Nat.beq sz sz'<;>simp only[cond_true,cond_false]
      cases h3:nth xs i<;>rfl
  · rfl
theorem Zl4 (H:Zi) (n:Nat) (x v:V) (k:K3 β):Zm8 H n x v k=on3 (Zg8 H n x v) k:=by
  unfold Zm8
  simp only[ZdP]
  split
  · rename_i b sz i j
    simp only[Zg8]
    cases h:nth H b with
    | none=>rfl
    | some blk=>
      cases blk<;>try rfl
      rename_i sz' xs
      dsimp only
      cases h2:Nat.beq sz sz'<;>simp only[cond_true,cond_false]<;>try rfl
      cases h3:nth xs i with
      | none=>rfl
      | some x=>
        cases h4:fr H 6 v with
        | none=>rfl
        | some q=>
          obtain⟨y,ks⟩:=q
          dsimp only
          cases h5:Zfy ks b<;>simp only[cond_true,cond_false]<;>try rfl
          cases h6:(Nat.beq y.cells.length n&&Nat.ble (j+n) x.cells.length&&(V.d y).okb&&(x.isAgg || !y.isAgg))<;>rfl
  · rfl
theorem Zog (nid:Nat) (H:Zi) (sz:Nat) (x y:V) (k:K3 β):ZmJ nid H sz x y k=on3 (Zh8 nid H sz x y) k:=by
  unfold ZmJ Zh8
  cases h:elems H y with
  | none=>rfl
  | some ys=>
    simp only[Zde,Zh0]
    cases h0:Zhu sz ys 0<;>simp only[cond_true,cond_false]<;>try rfl
    cases x<;>try rfl
    · rename_i b sz'
      dsimp only
      cases h1:nth H b with
      | none=>rfl
      | some blk=>
        cases blk<;>try rfl
        rename_i sz'' xs
        dsimp only
        cases h2:(Nat.beq sz sz'&&Nat.beq sz sz'')<;>simp only[cond_true,cond_false]<;>try rfl
        cases h3:Nat.ble (xs.length+ys.length) lim<;>rfl
    · rename_i b sz' o len
      dsimp only
      cases h1:nth H b with
      | none=>rfl
      | some blk=>
        cases blk<;>try rfl
        rename_i sz'' xs
        dsimp only
        cases h2:(Nat.beq sz sz'&&Nat.beq sz sz'')
        · simp only[Bool.false_and,cond_false];rfl
        · simp only[Bool.true_and,Zde]
          cases h3:Nat.ble (o+len+ys.length) xs.length<;>rfl
    · dsimp only
      cases h3:Nat.ble ys.length lim<;>rfl
theorem Zoc (H:Zi) (sz:Nat) (x y:V) (k:V→Option β):Zjh H sz x y k=(match Zf1 H sz x y with | some v=>k v | none=>none):=by
  unfold Zjh Zf1
  cases x<;>try rfl
  dsimp only
  cases h:elems H y with
  | none=>rfl
  | some ys=>
    simp only[Zde,Zh0]
    cases h0:Zhu sz ys 0<;>cases h1:Nat.ble ys.length lim<;>rfl
theorem Zp4 (v:Option V) (d:Nat) (k:Nat→Option β):Zle v d k=(match Zfq v d with | some n=>k n | none=>none):=by
  unfold Zle Zfq
  cases v with
  | none=>rfl
  | some v=>
    cases v<;>try rfl
    rename_i x
    cases x<;>try rfl
    rename_i i n
    dsimp only
    rw[Zde]
    cases h:decide (0≤n)<;>rfl
theorem ZpO (H:Zi) (sz:Nat) (x:V) (lo hi mx:Option V) (k:V→Option β):ZmO H sz x lo hi mx k=(match Zf0 H sz x lo hi mx with | some v=>k v | none=>none):=by
  unfold ZmO Zf0
  cases h:elems H x with
  | none=>rfl
  | some xs=>
    simp only[Zp4]
    cases h1:Zfq lo 0 with
    | none=>rfl
    | some l=>
      cases h2:Zfq hi xs.length with
      | none=>rfl
      | some hh=>
        simp only[Zde,Zh0]
        cases h3:(Nat.ble l hh&&Nat.ble hh xs.length)<;>simp only[cond_true,cond_false]
        cases mx with
        | none=>
          cases x<;>try rfl
          · rename_i x
            cases x<;>try rfl
            dsimp only
            cases h4:(Nat.beq l 0 || Zhu sz xs l)<;>rfl
          · rename_i b sz'
            dsimp only
            cases h4:Nat.beq sz sz'<;>rfl
          · rename_i b sz' o len
            dsimp only
            cases h4:Nat.beq sz sz'<;>rfl
        | some m=>
          dsimp only
          cases h4:Zfq (some m) 0 with
          | none=>rfl
          | some m=>
            dsimp only
            cases h5:(Nat.beq m l&&Nat.beq m hh)<;>rfl
theorem Zp8 (H:Zi) (sz:Nat) (x i:V) (k:V→Option β):ZmS H sz x i k=(match ZfN H sz x i with | some v=>k v | none=>none):=by
  unfold ZmS ZfN
  simp only[ZdP]
  cases i<;>try rfl
  rename_i i
  cases i<;>try rfl
  rename_i ki i
  cases x<;>try rfl
  · rename_i x
    cases x<;>try rfl
    rename_i own xs
    dsimp only
    cases h:ZF xs i with
    | none=>rfl
    | some x=>
      dsimp only
      cases h2:(Nat.beq x.cells.length sz&&(V.d x).okb)<;>rfl
  · rename_i b sz'
    dsimp only
    cases h1:nth H b with
    | none=>rfl
    | some blk=>
      cases blk<;>try rfl
      rename_i sz'' xs
      dsimp only
      cases h2:(Nat.beq sz sz'&&Nat.beq sz sz'')<;>simp only[cond_true,cond_false]
      cases h:ZF xs i<;>rfl
  · rename_i b sz' o len
    dsimp only
    cases h1:nth H b with
    | none=>rfl
    | some blk=>
      cases blk<;>try rfl
      rename_i sz'' xs
      dsimp only
      cases h2:(Nat.beq sz sz'&&Nat.beq sz sz'')<;>simp only[cond_true,cond_false]
      cases h:ZF ((xs.drop o).take len) i<;>rfl
theorem ZpK (len sz:Nat) (ag:Bool) (x i:V) (k:V→Option β):ZmH len sz ag x i k=(match ZiY len sz ag x i with | some v=>k v | none=>none):=by
  unfold ZmH ZiY
  cases i<;>try rfl
  rename_i i
  cases i<;>try rfl
  rename_i ki i
  dsimp only
  rw[Zde,ZdP]
  cases (x.isAggV&&(decide (0≤i)&&decide (i<(len:Int)))) with
  | false=>rfl
  | true=>simp only[cond_true];cases ZdB sz ag (List.drop (i.toNat*sz) x.cells)<;>rfl
theorem Zoq (H:Zi) (len sz:Nat) (x i:V) (k:V→Option β):Zkm H len sz x i k=(match Zeu H len sz x i with | some v=>k v | none=>none):=by
  unfold Zkm Zeu
  cases i<;>try rfl
  rename_i i
  cases i<;>try rfl
  rename_i ki i
  dsimp only
  rw[Zde]
  cases (decide (0≤i)&&decide (i<(len:Int)))<;>rfl
theorem Zoi (x i:V) (k:V→Option β):Zkv x i k=(match Zg9 x i with | some v=>k v | none=>none):=by
  unfold Zkv Zg9
  cases x<;>try rfl
  rename_i x
  cases x<;>try rfl
  rename_i s
  cases i<;>try rfl
  rename_i i
  cases i<;>try rfl
  rename_i ki i
  dsimp only
  rw[Zde,ZdP]
  cases decide (0≤i) with
  | false=>rfl
  | true=>simp only[cond_true];cases s[i.toNat]?<;>rfl
theorem Zpb (x:Res) (k:K3 β):(match x with | some (v,up,nw)=>Zl6 v fun v=>k v up nw | none=>none)=on3 x k:=by
  cases x with
  | none=>rfl
  | some q=>exact ZnZ _ _
theorem ZoH (H:Zi) (ks:List Bool) (m x v:V) (k:K3 β):Znd H ks m x v k=on3 (Zi3 H ks m x v) k:=by
  unfold Znd Zi3
  cases m<;>try rfl
  cases x<;>try rfl
  cases v<;>try rfl
  rename_i b x y
  dsimp only
  cases hb:nth H b with
  | none=>rfl
  | some blk=>
    cases blk<;>try rfl
    rename_i es
    dsimp only
    cases hk:(ZcK ks x&&Zfx y) with
    | false=>rfl
    | true=>
      dsimp only
      rw[ZdP]
      cases hs:ZgS es x y<;>rfl
theorem ZoT (H:Zi) (ks:List Bool) (z:D) (m x:V) (k:K3 β):Zna H ks z m x k=on3 (match Zig H ks z m x with | some r=>Zct (.d r) | none=>none) k:=by
  unfold Zna Zig
  cases m<;>try rfl
  cases x<;>try rfl
  rename_i b x
  dsimp only
  cases hb:nth H b with
  | none=>rfl
  | some blk=>
    cases blk<;>try rfl
    rename_i es
    dsimp only
    cases hk:ZcK ks x with
    | false=>rfl
    | true=>
      dsimp only
      rw[ZdP]
      cases hs:ZsA es x z<;>rfl
theorem ZmV (Γ:Ctx) (cf:ZaY) (e:Env) (nid:Nat) (H:Zi) (o:O) (k:K3 β):opK Γ cf e nid H o k=on3 (opE Γ cf e nid H o) k:=by
  cases o<;>try (first | rfl | exact Zpb _ _)
  · rename_i c a b
    show(match c.val e with | .d (.bool t)=>brL t (k (a.val e) [] []) (k (b.val e) [] []) | _=>none)=on3 (match c.val e with | .d (.bool t)=>Zct (bif t then a.val e else b.val e) | _=>none) k
    cases c.val e<;>try rfl
    rename_i x
    cases x<;>try rfl
    rename_i t
    cases t<;>rfl
  · rename_i n ag x
    show Zo5 H n ag (x.val e) (fun v=>k v [] [])=on3 (match ZcE H n ag (x.val e) with | some v=>Zct v | none=>none) k
    rw[ZqU]
    cases h:ZcE H n ag (x.val e)<;>rfl
  · exact Zl4 _ _ _ _ _
  · rename_i op x y
    show Zsp op (x.val e) (y.val e) (fun v=>k v [] [])=on3 (match ZjU op (x.val e) (y.val e) with | some r=>Zct (.d r) | none=>none) k
    rw[Zsa]
    cases h:ZjU op (x.val e) (y.val e)<;>rfl
  · rename_i ks neg x y
    show(match x.val e,y.val e with
      | .d a,.d b=>(match ZcK ks a with | true=>(match eqD a b with | some r=>ZhK (bif neg then !r else r) (fun v=>k v [] []) | none=>none) | false=>none)
      | _,_=>none)=on3 (match x.val e,y.val e with
      | .d a,.d b=>(match ZcK ks a with | true=>(match eqD a b with | some r=>Zct (.d (.bool (bif neg then !r else r))) | none=>none) | false=>none)
      | _,_=>none) k
    cases x.val e<;>try rfl
    rename_i a
    cases y.val e<;>try rfl
    rename_i b
    dsimp only
    cases hn:ZcK ks a<;>try rfl
    dsimp only
    cases h:eqD a b with
    | none=>rfl
    | some r=>exact ZgD _ _
  · rename_i op x
    cases op<;>try (first | rfl | exact Zpb _ _)
    show(match x.val e with | .d (.bool b)=>brL b (k (.d (.bool false)) [] []) (k (.d (.bool true)) [] []) | _=>none)=on3 (match unE .not (x.val e) with | some r=>Zct (.d r) | none=>none) k
    cases x.val e<;>try rfl
    rename_i a
    cases a<;>try rfl
    rename_i b
    cases b<;>rfl
  · rename_i f caps
    cases caps<;>rfl
  · rename_i sz z n c
    show(match n.val e,c.val e with
      | .d (.int _ n),.d (.int _ c)=>br (decide (0≤n)&&decide (n≤lim)&&decide (n==c)) (bnd (some (List.replicate n.toNat (match z with | [x]=>x | z=>.agg z))) fun zs=>k (.sl nid sz) [] [.arr sz zs]) none
      | _,_=>none)=on3 (match n.val e,c.val e with
      | .d (.int _ n),.d (.int _ c)=>bif decide (0≤n)&&decide (n≤lim)&&decide (n==c) then some (.sl nid sz,[],[.arr sz (List.replicate n.toNat (match z with | [x]=>x | z=>.agg z))]) else none
      | _,_=>none) k
    cases n.val e<;>try rfl
    rename_i x
    cases x<;>try rfl
    rename_i i n1
    cases c.val e<;>try rfl
    rename_i x
    cases x<;>try rfl
    rename_i j c1
    dsimp only
    simp only[Zde,Zh0]
    cases h3:(decide (0≤n1)&&decide (n1≤lim)&&decide (n1==c1))<;>rfl
  · rename_i sz x lo hi mx
    show ZmO H sz (x.val e) (lo.map (·.val e)) (hi.map (·.val e)) (mx.map (·.val e)) (fun v=>k v [] [])=on3 (match Zf0 H sz (x.val e) (lo.map (·.val e)) (hi.map (·.val e)) (mx.map (·.val e)) with | some v=>Zct v | none=>none) k
    rw[ZpO]
    cases h:Zf0 H sz (x.val e) (lo.map (·.val e)) (hi.map (·.val e)) (mx.map (·.val e))<;>rfl
  · rename_i sz x i
    show ZmS H sz (x.val e) (i.val e) (fun v=>k v [] [])=on3 (match ZfN H sz (x.val e) (i.val e) with | some v=>Zct v | none=>none) k
    rw[Zp8]
    cases h:ZfN H sz (x.val e) (i.val e)<;>rfl
  · rename_i len sz ag x i
    show ZmH len sz ag (x.val e) (i.val e) (fun v=>k v [] [])=on3 (match ZiY len sz ag (x.val e) (i.val e) with | some v=>Zct v | none=>none) k
    rw[ZpK]
    cases h:ZiY len sz ag (x.val e) (i.val e)<;>rfl
  · rename_i x i
    show Zkv (x.val e) (i.val e) (fun v=>k v [] [])=on3 (match Zg9 (x.val e) (i.val e) with | some v=>Zct v | none=>none) k
    rw[Zoi]
    cases h:Zg9 (x.val e) (i.val e)<;>rfl
  · rename_i len sz x i
    show Zkm H len sz (x.val e) (i.val e) (fun v=>k v [] [])=on3 (match Zeu H len sz (x.val e) (i.val e) with | some v=>Zct v | none=>none) k
    rw[Zoq]
    cases h:Zeu H len sz (x.val e) (i.val e)<;>rfl
  · rename_i x
    show(match elems H (x.val e) with | some xs=>bnd (some (xs.length:Int)) fun n=>k (.d (.int .i64 n)) [] [] | none=>none)=on3 (match ZmZ H (x.val e) with | some r=>Zct (.d r) | none=>none) k
    unfold ZmZ
    cases elems H (x.val e) with
    | none=>rfl
    | some xs=>exact Zh0 _ _
  · exact Zog _ _ _ _ _ _
  · rename_i sz x y
    show Zjh H sz (x.val e) (y.val e) (fun v=>k v [] [])=on3 (match Zf1 H sz (x.val e) (y.val e) with | some v=>Zct v | none=>none) k
    rw[Zoc]
    cases h:Zf1 H sz (x.val e) (y.val e)<;>rfl
  · rename_i x i
    show(match x.val e with
      | .tup vs=>(match nth vs i with | some (.d (.bool c))=>ZhK c (fun v=>k v [] []) | some v=>k v [] [] | none=>none)
      | .d (.tup vs)=>(match nth vs i with | some (.bool c)=>ZhK c (fun v=>k v [] []) | some v=>k (.d v) [] [] | none=>none)
      | _=>none)=on3 (match x.val e with
      | .tup vs=>(match nth vs i with | some v=>Zct v | none=>none)
      | .d (.tup vs)=>(match nth vs i with | some v=>Zct (.d v) | none=>none)
      | _=>none) k
    cases x.val e<;>try rfl
    · rename_i y
      cases y<;>try rfl
      rename_i vs
      dsimp only
      cases nth vs i with
      | none=>rfl
      | some v => cases v <;> try rfl
                  exact ZgD _ _
    · rename_i vs
      dsimp only
      cases nth vs i with
      | none=>rfl
      | some v => cases v <;> try rfl
                  rename_i y
                  cases y<;>try rfl
                  exact ZgD _ _
  · exact Zjq _ _ _ _ _ _ _
  · rename_i x args
    show(match Zhg (x.val e) with | some (f,caps)=>(match ZeG Γ (x.val e) f caps with | true=>none | false=>Zj3 Γ cf nid H (Ziq f) (Zj7 f caps (ZdO e args)) k) | none=>none)=_
    rw[ZeQ]
    cases h:Zhg (x.val e) with
    | none=>rfl
    | some q=>
      obtain⟨f,caps⟩:=q
      dsimp only
      cases hb:ZeG Γ (x.val e) f caps
      · exact Zjq _ _ _ _ _ _ _
      · rfl
  · rename_i tab x args
    show(match x.val e with
      | .d (.iface t y)=>(match Ziw tab t with | some f=>Zj3 Γ cf nid H f (.d y :: ZdO e args) k | none=>none)
      | _=>none)=_
    rw[Zep]
    cases h:x.val e<;>try rfl
    rename_i y
    cases y<;>try rfl
    rename_i t y
    dsimp only
    cases h2:Ziw tab t with
    | none=>rfl
    | some f=>exact Zjq _ _ _ _ _ _ _
  · exact ZoH _ _ _ _ _ _
  · exact ZoT _ _ _ _ _ _
  · exact Zjq _ _ _ _ _ _ _
  · rename_i x
    show(match elems H (x.val e) with | some xs=>br (Nat.blt 0 xs.length) (k (.d (.bool false)) [] []) none | none=>none)=on3 (match elems H (x.val e) with | some xs=>(match Nat.blt 0 xs.length with | true=>Zct (.d (.bool false)) | false=>none) | none=>none) k
    cases elems H (x.val e) with
    | none=>rfl
    | some xs=>
      dsimp only
      rw[Zde]
      cases Nat.blt 0 xs.length<;>rfl
  · rename_i id args
    show(match H,ZhG (ZdO e args) with | [],some l=>bnd (Ziu id l) fun r=>k (.d r) [] [] | _,_=>none)=on3 (match H,ZhG (ZdO e args) with | [],some l=>(match Ziu id l with | some r=>Zct (.d r) | none=>none) | _,_=>none) k
    cases H<;>cases ZhG (ZdO e args)<;>try rfl
    rename_i l
    dsimp only
    rw[ZdP]
    cases Ziu id l<;>rfl
  · exact Zl4 _ _ _ _ _
def ZjY (e:Env) (g:Option (Nat×Bool)) (x y:Option β):Option β:=
  match g with
  | none=>x
  | some (s,b)=>match e s with | .d (.bool t)=>brL (t==b) x y | .d (.tup [])=>y | _=>none
theorem Zl8 (e:Env) (g:Option (Nat×Bool)) (x y:Option β):ZjY e g x y=(match Zeb e g with | some true=>x | some false=>y | none=>none):=by
  unfold ZjY Zeb
  cases g with
  | none=>rfl
  | some p=>
    obtain⟨s,b⟩:=p
    dsimp only
    split<;>rename_i h
    · simp only[h,brL];rename_i t;cases h2:t==b<;>rfl
    · simp only[h]
    · split<;>simp_all
end
section
variable {β:Type}
def Zmo (e:Env) (dst:Option Nat) (H:Zi) (v:V) (up:List (Nat×Blk)) (nw:List Blk) (k:Env→Zi→Option β):Option β:=
  ZmD v fun v=>match dst with
    | some i=>(match up,nw with
      | [],[]=>k (e.set i v) H
      | up,nw=>Zhw (Zc6 H up++nw) fun H=>k (e.set i v) H)
    | none=>(match up,nw with
      | [],[]=>k e H
      | up,nw=>Zhw (Zc6 H up++nw) fun H=>k e H)
theorem Zns (e:Env) (dst:Option Nat) (H:Zi) (v:V) (up:List (Nat×Blk)) (nw:List Blk) (k:Env→Zi→Option β):Zmo e dst H v up nw k=k (Zlk e dst v) (Zc6 H up++nw):=by
  unfold Zmo
  rw[ZmC]
  cases dst<;>dsimp only[Zlk]
  all_goals
    split
    · simp[Zc6]
    · rw[ZgL]
def ZnA (e:Env) (dst:Option Nat) (k:Env→Option β):Option β:=match dst with | some i=>k (e.set i (.d (.tup []))) | none=>k e
theorem Zod (e:Env) (dst:Option Nat) (k:Env→Option β):ZnA e dst k=k (Zlk e dst (.d (.tup []))):=by cases dst<;>rfl
def ZoC:O→Bool
  | .mov _=>true
  | .pick _ _ _=>true
  | .build _ _=>true
  | .bin _ _ _=>true
  | .eqv _ _ _ _=>true
  | .un _ _=>true
  | .conv _ _=>true
  | .mkfn _ _=>true
  | .field _ _ _ _=>true
  | .index _ _ _ _ _=>true
  | .indexS _ _=>true
  | .mx _ _=>true
  | .extract _ _=>true
  | .bslice _ _ 0 _=>true
  | .alloc _=>true
  | .box _=>true
  | _=>false
theorem Zp2 {Γ:Ctx}{cf:ZaY}{e:Env}{nid:Nat}{H H':Zi}{op:O} (h:ZoC op=true):opE Γ cf e nid H op=opE Γ cf e nid H' op:=by
  cases op<;>first | rfl | (cases h;done) | skip
  rename_i sz z len ps
  cases len with
  | zero=>rfl
  | succ n=>cases h
noncomputable def Zpx (Γ:Ctx) (cf:ZaY) (l:List Op1) (e:Env) (H:Zi) (k:Env→Zi→Option β):Option β:=
  List.rec (motive:=fun _=>Env→Zi→(Env→Zi→Option β)→Option β) (fun e H k=>k e H)
    (fun o _ ih e H k=>ZjY e o.guard (Zc0 H.length fun nid=>opK Γ cf e nid H o.op fun v up nw=>Zmo e o.dst H v up nw fun e H=>ih e H k) (ZnA e o.dst fun e=>ih e H k)) l e H k
theorem ZpC (Γ:Ctx) (cf:ZaY) (o:Op1) (r:List Op1) (e:Env) (H:Zi) (k:Env→Zi→Option β) :
    Zpx Γ cf (o :: r) e H k=ZjY e o.guard (Zc0 H.length fun nid=>opK Γ cf e nid H o.op fun v up nw=>Zmo e o.dst H v up nw fun e H=>Zpx Γ cf r e H k) (ZnA e o.dst fun e=>Zpx Γ cf r e H k):=rfl
theorem Zm6 (Γ:Ctx) (cf:ZaY):∀(l:List Op1) (e:Env) (H:Zi) (k:Env→Zi→Option β),Zpx Γ cf l e H k=(match ZfC Γ cf l e H with | some (e,H)=>k e H | none=>none)
  | [],e,H,k=>rfl
  | o :: l,e,H,k=>by
    rw[ZpC]
    unfold ZfC
    rw[Zl8,Zc8,ZmV,Zod]
    cases hw:Zeb e o.guard with
    | none=>rfl
    | some b=>
      cases b with
      | false=>exact Zm6 Γ cf l _ _ k
      | true=>
        dsimp only
        cases ho:opE Γ cf e H.length H o.op with
        | none=>rfl
        | some q=>obtain⟨v,up,nw⟩:=q;simp only[on3,Zns];exact Zm6 Γ cf l _ _ k
def ZiN (l:List (Nat×Nat)) (k:List (Nat×Nat)→Option β):Option β:=
  match l with
  | []=>k []
  | p :: l=>Zc0 p.1 fun a=>Zc0 p.2 fun b=>ZiN l fun l=>k ((a,b) :: l)
theorem ZjZ:∀(l:List (Nat×Nat)) (k:List (Nat×Nat)→Option β),ZiN l k=k l
  | [],k=>rfl
  | p :: l,k=>by unfold ZiN;rw[Zc8,Zc8,ZjZ l]
def Zsg (o:O) (mask:List Nat) (H:Zi) (pos:List (Nat×Nat)) (k:Zi→Option β):Option β:=
  match ZoC o with
  | true=>k H
  | false=>(match mask with | []=>k H | mask=>Zhw (ZeB H pos mask) k)
noncomputable def ZlW (Γ:Ctx) (cf:ZaY) (pos:List (Nat×Nat)) (l:List Op1) (e:Env) (H:Zi) (k:Env→Zi→Option β):Option β:=
  List.rec (motive:=fun _=>List (Nat×Nat)→Env→Zi→(Env→Zi→Option β)→Option β) (fun _ e H k=>k e H)
    (fun o _ ih pos e H k=>ZjY e o.guard (Zc0 H.length fun nid=>Zsg o.op o.mask H pos fun Hm=>opK Γ cf e nid Hm o.op fun v up nw=>
      (match ZkG e H o up nw with | true=>Zc0 nw.length fun m=>ZiN (pos++[(nid,m)]) fun pos=>Zmo e o.dst H v up nw fun e' H'=>ih pos e' H' k | false=>none)) (ZnA e o.dst fun e'=>Zc0 H.length fun nid=>ZiN (pos++[(nid,0)]) fun pos=>ih pos e' H k)) l pos e H k
theorem Zoy (Γ:Ctx) (cf:ZaY) (pos:List (Nat×Nat)) (o:Op1) (r:List Op1) (e:Env) (H:Zi) (k:Env→Zi→Option β) :
    ZlW Γ cf pos (o :: r) e H k=ZjY e o.guard (Zc0 H.length fun nid=>Zsg o.op o.mask H pos fun Hm=>opK Γ cf e nid Hm o.op fun v up nw=>
      (match ZkG e H o up nw with | true=>Zc0 nw.length fun m=>ZiN (pos++[(nid,m)]) fun pos=>Zmo e o.dst H v up nw fun e' H'=>ZlW Γ cf pos r e' H' k | false=>none)) (ZnA e o.dst fun e'=>Zc0 H.length fun nid=>ZiN (pos++[(nid,0)]) fun pos=>ZlW Γ cf pos r e' H k):=rfl
theorem Zrk (Γ:Ctx) (cf:ZaY) (e:Env) (nid:Nat) (o:O) (mask:List Nat) (H:Zi) (pos:List (Nat×Nat)) (k:K3 β):(Zsg o mask H pos fun Hm=>opK Γ cf e nid Hm o k)=opK Γ cf e nid (ZeB H pos mask) o k:=by
  unfold Zsg
  cases h:ZoC o with
  | true=>dsimp only;rw[ZmV,ZmV,Zp2 h (H:=H) (H':=ZeB H pos mask)]
  | false=>
    dsimp only
    cases mask with
    | nil=>rfl
    | cons a l=>dsimp only;rw[ZgL]
theorem Zlz (Γ:Ctx) (cf:ZaY):∀(l:List Op1) (pos:List (Nat×Nat)) (e:Env) (H:Zi) (k:Env→Zi→Option β),ZlW Γ cf pos l e H k=(match ZdX Γ cf pos l e H with | some (e,H)=>k e H | none=>none)
  | [],pos,e,H,k=>rfl
  | o :: l,pos,e,H,k=>by
    rw[Zoy]
    unfold ZdX
    rw[Zl8,Zc8,Zrk,ZmV,Zod,Zc8,ZjZ]
    cases hw:Zeb e o.guard with
    | none=>rfl
    | some b=>
      cases b with
      | false=>exact Zlz Γ cf l _ _ _ k
      | true=>
        dsimp only
        cases ho:opE Γ cf e H.length (ZeB H pos o.mask) o.op with
        | none=>rfl
        | some q=>
          obtain⟨v,up,nw⟩:=q
          simp only[on3]
          cases hb:(ZkG e H o up nw)<;>simp only[cond_true,cond_false,Zns,Zc8,ZjZ]
          exact Zlz Γ cf l _ _ _ k
noncomputable def lpW (Γ:Ctx) (k:Nat) (live outs:List Nat) (a:C) (vs:List V) (H:Zi):Option (Ex×List V×Zi):=
  itW (fun vs H=>Zdu k live outs (ZK Γ (evW Γ) itW k a (Zdd live vs) H)) vs H
noncomputable def Zgl (Γ:Ctx) (k0:Nat) (c:C) (e:Env) (H:Zi) (k:Ex→Env→Zi→Option β):Option β:=
  C.rec (motive:=fun _=>Env→Zi→(Ex→Env→Zi→Option β)→Option β)
    (fun e H k=>k .normal e H) (fun e H k=>k .ret e H) (fun id e H k=>k (.exit id) e H)
    (fun _ _ ia ib e H k=>ia e H fun x e H=>(match x with | .normal=>ib e H k | .exit i=>k (.exit i) e H | .ret=>k .ret e H))
    (fun x _ _ ia ib e H k=>(match x.val e with | .d (.bool t)=>brL t (ia e H k) (ib e H k) | _=>none))
    (fun id _ ia e H k=>ia e H fun x e H=>(match x with | .exit j=>(match Nat.beq j id with | true=>k .normal e H | false=>k (.exit j) e H) | .normal=>k .normal e H | .ret=>k .ret e H))
    (fun live outs a _ e H k=>Zk2 k0 (live.map e) H fun vs H=>bnd (lpW Γ k0 live outs a vs H) fun r=>k r.1 (Zdd outs r.2.1) r.2.2)
    (fun l e H k=>Zpx Γ (evW Γ) l e H fun e H=>k .normal e H)
    (fun l e H k=>ZlW Γ (evW Γ) [] l e H fun e H=>k .normal e H) c e H k
theorem Zi2 (Γ:Ctx) (k0:Nat):∀(c:C) (e:Env) (H:Zi) (k:Ex→Env→Zi→Option β),Zgl Γ k0 c e H k=(match ZK Γ (evW Γ) itW k0 c e H with | some (x,e,H)=>k x e H | none=>none):=by
  intro c
  induction c with
  | skip=>intros;rfl
  | ret=>intros;rfl
  | exit id=>intros;rfl
  | seq a b iha ihb=>
    intro e H k
    show(Zgl Γ k0 a e H fun x e H=>(match x with | .normal=>Zgl Γ k0 b e H k | .exit i=>k (.exit i) e H | .ret=>k .ret e H))=_
    unfold ZK
    rw[iha]
    cases h:ZK Γ (evW Γ) itW k0 a e H with
    | none=>rfl
    | some q=>
      obtain⟨x,e1,H1⟩:=q
      cases x with
      | normal=>exact ihb e1 H1 k
      | exit i=>rfl
      | ret=>rfl
  | cond x a b iha ihb=>
    intro e H k
    show(match x.val e with | .d (.bool t)=>brL t (Zgl Γ k0 a e H k) (Zgl Γ k0 b e H k) | _=>none)=_
    unfold ZK
    cases h:x.val e<;>try rfl
    rename_i y
    cases y<;>try rfl
    rename_i t
    cases t
    · exact ihb e H k
    · exact iha e H k
  | block id a iha=>
    intro e H k
    show(Zgl Γ k0 a e H fun x e H=>(match x with | .exit j=>(match Nat.beq j id with | true=>k .normal e H | false=>k (.exit j) e H) | .normal=>k .normal e H | .ret=>k .ret e H))=_
    unfold ZK
    rw[iha]
    cases h:ZK Γ (evW Γ) itW k0 a e H with
    | none=>rfl
    | some q=>
      obtain⟨x,e1,H1⟩:=q
      cases x with
      | normal=>rfl
      | exit j=>dsimp only;cases h2:Nat.beq j id<;>rfl
      | ret=>rfl
  | loop live outs a iha=>
    intro e H k
    show(Zk2 k0 (live.map e) H fun vs H=>bnd (lpW Γ k0 live outs a vs H) fun r=>k r.1 (Zdd outs r.2.1) r.2.2)=_
    unfold ZK
    rw[ZnM]
    cases h:Zkh k0 (live.map e) H with
    | none=>rfl
    | some q=>
      obtain⟨vs,H1⟩:=q
      simp only[lpW,ZdP]
      cases h2:itW (fun vs H=>Zdu k0 live outs (ZK Γ (evW Γ) itW k0 a (Zdd live vs) H)) vs H1 with
      | none=>rfl
      | some r=>obtain⟨x,vs,H⟩:=r;rfl
  | ops l=>
    intro e H k
    show(Zpx Γ (evW Γ) l e H fun e H=>k .normal e H)=_
    unfold ZK
    rw[Zm6]
    cases h:ZfC Γ (evW Γ) l e H<;>rfl
  | draw l=>
    intro e H k
    show(ZlW Γ (evW Γ) [] l e H fun e H=>k .normal e H)=_
    unfold ZK
    rw[Zlz]
    cases h:ZdX Γ (evW Γ) [] l e H<;>rfl
theorem ZtD (Γ:Ctx) (k:Nat) (live outs:List Nat) (a:C) (vs:List V) (H:Zi) :
    lpW Γ k live outs a vs H=Zgl Γ k a (Zdd live vs) H fun x e H=>(match x with
      | .normal=>Zk2 k (live.map e) H fun vs H=>lpW Γ k live outs a vs H
      | x=>Zev k (outs.map e) H fun _ vs H=>some (x,vs,H)):=by
  unfold lpW
  rw[Ztl,Zi2]
  cases h:ZK Γ (evW Γ) itW k a (Zdd live vs) H with
  | none=>rfl
  | some q=>
    obtain⟨x,e,H1⟩:=q
    cases x with
    | normal=>
      simp only[Zdu]
      rw[ZnM]
      cases h2:Zkh k (live.map e) H1 with
      | none=>rfl
      | some r=>obtain⟨vs,H2⟩:=r;rfl
    | exit j=>
      simp only[Zdu]
      rw[ZcM]
      cases h2:extract k (outs.map e) H1 with
      | none=>rfl
      | some r=>obtain⟨L,vs,H2⟩:=r;rfl
    | ret=>
      simp only[Zdu]
      rw[ZcM]
      cases h2:extract k (outs.map e) H1 with
      | none=>rfl
      | some r=>obtain⟨L,vs,H2⟩:=r;rfl
theorem Ze4 (Γ:Ctx) (f:Nat) (fn:FnI) (args:List V) (H:Zi) (hc:Γ.code f=some fn) (hn:Nat.beq args.length fn.nargs=true) :
    evW Γ f args H=Zgl Γ H.length fn.body (ZdC 0 args) H fun x e H1=>(match x with
      | .exit _=>none
      | _=>(match Zik e H1 fn.res with
        | some l=>Zev H.length [Zfo l] H1 fun _ vs H2=>(match vs with | [v]=>some (v,H2) | _=>none)
        | none=>none)):=by
  rw[ZtN]
  unfold Zht
  simp only[hc,hn,cond_true]
  rw[Zi2]
  cases h:ZK Γ (evW Γ) itW H.length fn.body (ZdC 0 args) H with
  | none=>rfl
  | some q=>
    obtain⟨x,e,H1⟩:=q
    cases x<;>try rfl
    all_goals
      dsimp only
      cases h2:Zik e H1 fn.res with
      | none=>rfl
      | some l=>
        dsimp only
        rw[ZcM]
        cases h3:extract H.length [Zfo l] H1 with
        | none=>rfl
        | some q=>
          obtain⟨L,vs,H2⟩:=q
          match vs with
          | []=>rfl
          | [v]=>rfl
          | _ :: _ :: _=>rfl
end
theorem Zss {β:Type} (x y:Option β):br true x y=x:=Zde _ _ _
theorem ZsL {β:Type} (x y:Option β):br false x y=y:=Zde _ _ _
theorem Znv {β:Type} (x:Option β):bnd x some=x:=by rw[ZdP];cases x<;>rfl
attribute [irreducible] br bnd lpW
end Go.Proofs.YtnpidpcmpleiaaaDoorE
namespace Go.Proofs.YtnpidpcmpleiaaaDoorE
open Go
structure ZQ where
 op:Int
 arg:Int
 work:Int
 deriving DecidableEq
structure ZL where
 src:Int
 dst:Int
 deriving DecidableEq
structure Zn where
 maker:Int
 user:Int
 pos:Int
 deriving DecidableEq
structure Zm where
 ins:List Int
 outs:List Int
 deriving DecidableEq
structure Zt where
 period:Int
 deadline:Int
 parts:List ZQ
 edges:List ZL
 futures:List Zn
 barriers:List Zm
 deriving DecidableEq
abbrev Zf (n:Int):D:=.int .i64 n
abbrev ZqQ (τ:Bool) (l:List Int):D:=.list τ (l.map Zf)
abbrev ZU (p:ZQ):D:=.agg [Zf p.op,Zf p.arg,Zf p.work]
abbrev ZR (e:ZL):D:=.agg [Zf e.src,Zf e.dst]
abbrev Zw (f:Zn):D:=.agg [Zf f.maker,Zf f.user,Zf f.pos]
abbrev Zq (b:Zm):D:=.agg [ZqQ true b.ins,ZqQ true b.outs]
abbrev ZuY (τ:Bool) (d:Zt):D:=.agg [Zf d.period,Zf d.deadline,.list τ (d.parts.map ZU),.list τ (d.edges.map ZR),.list τ (d.futures.map Zw),.list τ (d.barriers.map Zq)]
end Go.Proofs.YtnpidpcmpleiaaaDoorE
namespace Go.Proofs.YtnpidpcmpleiaaaDoorE
open Go
set_option linter.unusedVariables false
set_option linter.unusedSimpArgs false
theorem Zt3 {n:Int} (h1 : -9223372036854775808≤n) (h2:n<9223372036854775808):IntKind.i64.wrap n=n:=by
 show(if (true&&decide (n % 18446744073709551616 ≥ 9223372036854775808))=true then n % 18446744073709551616-18446744073709551616 else n % 18446744073709551616)=n
 by_cases h:n % 18446744073709551616 ≥ 9223372036854775808
 ·rw[decide_eq_true h];simp only[Bool.and_self,if_true];omega
 ·rw[decide_eq_false h];simp only[Bool.and_false,Bool.false_eq_true,if_false];omega
theorem ZqW {α:Type} (xs:List α) (i:Nat):ZF xs (i:Int)=xs[i]?:=by
 unfold ZF
 have:decide ((0:Int)≤i)=true:=by simp
 rw[this];simp[ZS]
theorem Zbd (Γ:Ctx) (k:Nat) (live outs:List Nat) (a:C) (vs:List V) (H:Zi) :
  lpW Γ k live outs a vs H=Zgl Γ k a (Zdd live vs) H fun x e H=>(match x with
   | .normal=>Zk2 k (live.map e) H fun vs H=>bnd (lpW Γ k live outs a vs H) some
   | x=>Zev k (outs.map e) H fun _ vs H=>some (x,vs,H)):=by
 refine(ZtD Γ k live outs a vs H).trans (congrArg (Zgl Γ k a (Zdd live vs) H) ?_)
 funext x e H
 cases x
 ·exact congrArg (Zk2 k (live.map e) H) (funext fun vs=>funext fun H=>(Znv _).symm)
 ·rfl
 ·rfl
theorem ZhY {α:Type}{f:α→D}{sz:Nat} (hf:∀x,(f x).cells.length=sz∧(V.d (f x)).okb=true) (l:List α) (i:Nat):Zhu sz (l.map f) i=true:=by
 unfold Zhu
 rw[ZS,List.getElem?_map]
 cases l[i]? with
 | none=>rfl
 | some x=>simp[hf x]
theorem ZuI {β:Type}{c:Bool}{x y:Option β} (h:c=true):br c x y=x:=by rw[h,Zss]
theorem Zu3 {β:Type}{c:Bool}{x y:Option β} (h:c=false):br c x y=y:=by rw[h,ZsL]
def first {α:Type} (p:α→Bool):Nat→List α→Option Nat
 | _,[]=>none
 | i,x :: l=>bif p x then some i else first p (i+1) l
theorem Ztn {Γ:Ctx}{f:Nat}{args:List V}{H:Zi}{r:V×Zi} (n:Nat) (h:evN Γ n f args H=some r):evW Γ f args H=some r:=(Zf5 Γ f args H r).2 ⟨n,h⟩
end Go.Proofs.YtnpidpcmpleiaaaDoorE
namespace Go.Proofs.YtnpidpcmpleiaaaDoorE
open Go
set_option linter.unusedVariables false
set_option linter.unusedSimpArgs false
theorem Zm4 {α:Type}{f:α→D}{p:α→Prop}:∀{xs:List D},(∀y∈xs,∃a,y=f a∧p a)→∃l:List α,xs=l.map f∧∀a∈l,p a
 | [],_=>⟨[],rfl,by simp⟩
 | x :: xs,h=>by
  obtain⟨a,ha,hp⟩:=h x (by simp)
  obtain⟨l,hl,hq⟩:=Zm4 (xs:=xs) fun y hy=>h y (by simp[hy])
  refine⟨a :: l,by rw[ha,hl];rfl,fun b hb=>?_⟩
  rcases List.mem_cons.1 hb with rfl | hb
  ·exact hp
  ·exact hq b hb
def I64 (n:Int):Prop:=-9223372036854775808≤n∧n<9223372036854775808
theorem Zfp {n:Int} (h:(Lit.int .i64 n).wf=true):I64 n:=by
 unfold Lit.wf at h
 simp only[Bool.and_eq_true,decide_eq_true_eq] at h
 have e1:IntKind.i64.min = -9223372036854775808:=by decide
 have e2:IntKind.i64.max=9223372036854775807:=by decide
 rw[e1,e2] at h
 unfold I64
 omega
theorem Zt9 {y:D}{n:Nat} (h:y.isAgg=true):y = .agg y.cells:=by
 cases y<;>first | rfl | cases h
theorem Zsq {y:D} (h:y.isAgg=false):y.cells=[y]:=by
 cases y<;>first | rfl | cases h
theorem Zs8 {n:Nat} (h:n≤maxLen):n<9223372036854775808:=by
 unfold maxLen at h;omega
def ZuC (l:List Int):Prop:=l.length<9223372036854775808∧∀n∈l,I64 n
theorem Zo4 {x:D} (h:Zsr (.sl false [.int .i64]) x):∃l,x=ZqQ true l∧ZuC l:=by
 obtain⟨xs,rfl,h1,h2⟩:=h
 obtain⟨l,hl,hp⟩:=Zm4 (f:=Zf) (p:=I64) (xs:=xs) fun y hy=>by
  obtain⟨a1,a2⟩:=h2 y hy
  rw[Zsq a1] at a2
  obtain⟨d,r,e1,⟨n,e2,e3⟩,_⟩:=a2
  cases e1
  exact⟨n,e2,Zfp e3⟩
 subst hl
 exact⟨l,rfl,by simpa using Zs8 h1,hp⟩
def ZqX (p:ZQ):Prop:=I64 p.op∧I64 p.arg∧I64 p.work
def Zrb (e:ZL):Prop:=I64 e.src∧I64 e.dst
def Zni (f:Zn):Prop:=I64 f.maker∧I64 f.user∧I64 f.pos
def Zmq (b:Zm):Prop:=ZuC b.ins∧ZuC b.outs
structure Zty (d:Zt):Prop where
 period:I64 d.period
 deadline:I64 d.deadline
 pl:d.parts.length<9223372036854775808
 p:∀x∈d.parts,ZqX x
 el:d.edges.length<9223372036854775808
 e:∀x∈d.edges,Zrb x
 fl:d.futures.length<9223372036854775808
 f:∀x∈d.futures,Zni x
 bl:d.barriers.length<9223372036854775808
 b:∀x∈d.barriers,Zmq x
theorem Zkq {x:D}{els:List Lf}{α:Type}{f:α→D}{p:α→Prop} (h:Zsr (.sl true els) x) (hf:∀cs,ZeW els cs→∃a,D.agg cs=f a∧p a):∃l:List α,x = .list true (l.map f)∧l.length<9223372036854775808∧∀a∈l,p a:=by
 obtain⟨xs,rfl,h1,h2⟩:=h
 obtain⟨l,hl,hp⟩:=Zm4 (f:=f) (p:=p) (xs:=xs) fun y hy=>by
  obtain⟨a1,a2⟩:=h2 y hy
  rw[Zt9 (n:=0) a1]
  exact hf _ a2
 subst hl
 exact⟨l,rfl,by simpa using Zs8 h1,hp⟩
abbrev ZuQ:List Lf:=[.int .i64,.int .i64,.sl true [.int .i64,.int .i64,.int .i64],.sl true [.int .i64,.int .i64],.sl true [.int .i64,.int .i64,.int .i64],.sl true [.sl false [.int .i64],.sl false [.int .i64]]]
theorem ZrZ {xs:List D} (h:ZeW ZuQ xs):∃d,D.agg xs=ZuY true d∧Zty d:=by
 obtain⟨x1,r1,rfl,⟨n1,rfl,w1⟩,x2,r2,rfl,⟨n2,rfl,w2⟩,x3,r3,rfl,h3,x4,r4,rfl,h4,x5,r5,rfl,h5,x6,r6,rfl,h6,rfl⟩:=h
 obtain⟨l3,rfl,b3,p3⟩:=Zkq (f:=ZU) (p:=ZqX) h3 fun cs hc=>by
  obtain⟨_,_,rfl,⟨a,rfl,wa⟩,_,_,rfl,⟨b,rfl,wb⟩,_,_,rfl,⟨c,rfl,wc⟩,rfl⟩:=hc
  exact⟨⟨a,b,c⟩,rfl,Zfp wa,Zfp wb,Zfp wc⟩
 obtain⟨l4,rfl,b4,p4⟩:=Zkq (f:=ZR) (p:=Zrb) h4 fun cs hc=>by
  obtain⟨_,_,rfl,⟨a,rfl,wa⟩,_,_,rfl,⟨b,rfl,wb⟩,rfl⟩:=hc
  exact⟨⟨a,b⟩,rfl,Zfp wa,Zfp wb⟩
 obtain⟨l5,rfl,b5,p5⟩:=Zkq (f:=Zw) (p:=Zni) h5 fun cs hc=>by
  obtain⟨_,_,rfl,⟨a,rfl,wa⟩,_,_,rfl,⟨b,rfl,wb⟩,_,_,rfl,⟨c,rfl,wc⟩,rfl⟩:=hc
  exact⟨⟨a,b,c⟩,rfl,Zfp wa,Zfp wb,Zfp wc⟩
 obtain⟨l6,rfl,b6,p6⟩:=Zkq (f:=Zq) (p:=Zmq) h6 fun cs hc=>by
  obtain⟨_,_,rfl,ha,_,_,rfl,hb,rfl⟩:=hc
  obtain⟨a,rfl,wa⟩:=Zo4 ha
  obtain⟨b,rfl,wb⟩:=Zo4 hb
  exact⟨⟨a,b⟩,rfl,wa,wb⟩
 exact⟨⟨n1,n2,l3,l4,l5,l6⟩,rfl,Zfp w1,Zfp w2,b3,p3,b4,p4,b5,p5,b6,p6⟩
theorem ZtY {xs:List D} (h:ZeW [.int .i64] xs):∃n,ZnN false xs=Zf n∧I64 n:=by
 obtain⟨_,_,rfl,⟨n,rfl,w⟩,rfl⟩:=h
 exact⟨n,rfl,Zfp w⟩
end Go.Proofs.YtnpidpcmpleiaaaDoorE
namespace Go.Proofs.YtnpidpcmpleiaaaDoorE
open Go
set_option linter.unusedVariables false
set_option linter.unusedSimpArgs false
def lpN {S R:Type} (Zav:S→Option (S⊕R)):Nat→S→Option R
 | 0,_=>none
 | n+1,s=>(match Zav s with | some (.inl s')=>lpN Zav n s' | some (.inr r)=>some r | none=>none)
theorem Zoo {S R:Type} (Zav:S→Option (S⊕R)):∀(n m:Nat) (s:S) (r:R),n≤m→lpN Zav n s=some r→lpN Zav m s=some r
 | 0,_,_,_,_,h=>by cases h
 | n+1,0,_,_,hm,_=>by omega
 | n+1,m+1,s,r,hm,h=>by
  unfold lpN at h ⊢
  cases hs:Zav s with
  | none=>rw[hs] at h;cases h
  | some t=>
   rw[hs] at h
   cases t with
   | inl s'=>exact Zoo Zav n m s' r (by omega) h
   | inr r'=>exact h
noncomputable def lp {S R:Type} (Zav:S→Option (S⊕R)) (s:S):Option R:=@dite _ (∃n,(lpN Zav n s).isSome=true) (Classical.propDecidable _) (fun h=>lpN Zav (Classical.choose h) s) fun _=>none
theorem ZqC {S R:Type}{Zav:S→Option (S⊕R)}{s:S}{r:R}{n:Nat} (h:lpN Zav n s=some r):lp Zav s=some r:=by
 unfold lp
 have hx:∃n,(lpN Zav n s).isSome=true:=⟨n,by rw[h];rfl⟩
 rw[dif_pos hx]
 have h2:=Classical.choose_spec hx
 cases h3:lpN Zav (Classical.choose hx) s with
 | none=>rw[h3] at h2;cases h2
 | some q=>
  have h4:=Zoo Zav _ (max n (Classical.choose hx)) s q (by omega) h3
  have h5:=Zoo Zav _ (max n (Classical.choose hx)) s r (by omega) h
  rw[h4] at h5
  exact h5
theorem Zrm {S R:Type}{Zav:S→Option (S⊕R)}{s:S}{r:R} (h:lp Zav s=some r):∃n,lpN Zav n s=some r:=by
 unfold lp at h
 split at h
 ·exact⟨_,h⟩
 ·cases h
theorem Zb9 {S R:Type} (Zav:S→Option (S⊕R)) (s:S):lp Zav s=(match Zav s with | some (.inl s')=>lp Zav s' | some (.inr r)=>some r | none=>none):=by
 have key:∀r,lp Zav s=some r↔(match Zav s with | some (.inl s')=>lp Zav s' | some (.inr r)=>some r | none=>none)=some r:=by
  intro r
  constructor
  ·intro h
   obtain⟨n,hn⟩:=Zrm h
   cases n with
   | zero=>cases hn
   | succ n=>
    unfold lpN at hn
    cases hs:Zav s with
    | none=>rw[hs] at hn;cases hn
    | some t=>
     rw[hs] at hn
     cases t with
     | inl s'=>exact ZqC hn
     | inr r'=>exact hn
  ·intro h
   cases hs:Zav s with
   | none=>rw[hs] at h;cases h
   | some t=>
    rw[hs] at h
    cases t with
    | inl s'=>
     obtain⟨n,hn⟩:=Zrm h
     exact ZqC (n:=n+1) (by unfold lpN;rw[hs];exact hn)
    | inr r'=>exact ZqC (n:=1) (by unfold lpN;rw[hs];exact h)
 cases h1:lp Zav s with
 | some r=>exact((key r).1 h1).symm
 | none=>
  cases h2:(match Zav s with | some (.inl s')=>lp Zav s' | some (.inr r)=>some r | none=>none) with
  | none=>rfl
  | some r=>rw[(key r).2 h2] at h1;cases h1
theorem ZkZ {S R:Type}{Zav:S→Option (S⊕R)}{s s':S} (h:Zav s=some (.inl s')):lp Zav s=lp Zav s':=by rw[Zb9,h]
theorem ZsE {S R:Type}{Zav:S→Option (S⊕R)}{s:S}{r:R} (h:Zav s=some (.inr r)):lp Zav s=some r:=by rw[Zb9,h]
noncomputable def ZqL {R:Type} (g:Nat→Option R):Option R:=@dite _ (∃r:R,∃N,∀n,N≤n→g n=some r) (Classical.propDecidable _) (fun h=>some (Classical.choose h)) fun _=>none
theorem ZsD {R:Type}{g:Nat→Option R}{r:R} (h:ZqL g=some r):∃n,g n=some r:=by
 unfold ZqL at h
 split at h
 ·rename_i hx
  obtain⟨N,hN⟩:=Classical.choose_spec hx
  exact⟨N,(hN N (Nat.le_refl _)).trans h⟩
 ·cases h
theorem Zr5 {R:Type}{g:Nat→Option R}{N:Nat}{r:R} (h:∀n,N≤n→g n=some r):ZqL g=some r:=by
 have hx:∃r:R,∃N,∀n,N≤n→g n=some r:=⟨r,N,h⟩
 unfold ZqL
 rw[dif_pos hx]
 obtain⟨M,hM⟩:=Classical.choose_spec hx
 rw[← hM (max N M) (by omega),h (max N M) (by omega)]
def ZV {α β:Type} (E:Option α) (Q:α→Option β→Prop) (rhs:Option β):Prop:=∀a,E=some a→Q a rhs
section
variable {α β:Type} {A B:Option α} {Q:α→Option β→Prop}
theorem Zd {c c':Bool}{X Y:Option β} (h:c=c') (h1:ZV A Q X) (h2:ZV B Q Y):ZV (bif c' then A else B) Q (br c X Y):=by
 subst h
 cases c with
 | true=>rw[Zss];exact h1
 | false=>rw[ZsL];exact h2
theorem Zcv {c:Bool}{X Y:Option β} (h:c=true) (h1:ZV A Q X):ZV A Q (br c X Y):=by rw[h,Zss];exact h1
theorem Zab {c:Bool}{X Y:Option β} (h:c=false) (h1:ZV A Q Y):ZV A Q (br c X Y):=by rw[h,ZsL];exact h1
theorem Zs {γ:Type}{x x':γ}{K:γ→Option β} (h:x=x') (k:ZV A Q (K x')):ZV A Q (bnd (some x) K):=by rw[h,Zh0];exact k
theorem Zg {γ:Type}{X:Option γ}{x:γ}{K:γ→Option β} (h:X=some x) (k:ZV A Q (K x)):ZV A Q (bnd X K):=by rw[h,Zh0];exact k
theorem Zb {γ δ:Type}{E:Option γ}{A:γ→Option α}{X:Option δ}{K:δ→Option β} (enc:γ→δ) (h:∀r,E=some r→X=some (enc r)) (k:∀r,E=some r→ZV (A r) Q (K (enc r))):ZV (E.bind A) Q (bnd X K):=by
 intro a ha
 cases hE:E with
 | none=>rw[hE] at ha;cases ha
 | some r=>
  rw[hE] at ha
  rw[h r hE,Zh0]
  exact k r hE a ha
theorem Zn5 {γ δ:Type} (f:γ→δ) (l:List γ) (i:Int):ZF (l.map f) i=(ZF l i).map f:=by
 unfold ZF
 cases decide (0≤i) with
 | false=>rfl
 | true=>simp only[cond_true,ZS,List.getElem?_map]
theorem Zk {γ:Type}{f:γ→D}{l:List γ}{xs:List D}{i i':Int}{A:γ→Option α}{K:D→Option β} (hx:xs=l.map f) (hi:i=i') (k:∀r,ZF l i'=some r→ZV (A r) Q (K (f r))):ZV ((ZF l i').bind A) Q (bnd (ZF xs i) K):=by
 subst hx hi
 exact Zb f (fun r h=>by rw[Zn5,h];rfl) k
theorem Zu {γ:Type}{f:γ→D}{l:List γ}{xs:List D}{i:Int}{r:γ} (hx:xs=l.map f) (h:ZF l i=some r):nth xs i.toNat=some (f r):=by
 subst hx
 unfold ZF at h
 cases hd:decide (0≤i) with
 | false=>rw[hd] at h;cases h
 | true=>rw[hd,cond_true,ZS] at h;rw[ZS,List.getElem?_map,h];rfl
theorem Za4 {γ:Type}{f:γ→D}{l:List γ}{xs:List D}{i:Int}{r:γ} (hx:xs=l.map f) (h:ZF l i=some r):ZF xs i=some (f r):=by
 subst hx
 rw[Zn5,h];rfl
theorem ZeZ {γ:Type}{E X:Option γ}{A:γ→Option α}{K:γ→Option β} (h:X=E) (k:∀r,E=some r→ZV (A r) Q (K r)):ZV (E.bind A) Q (bnd X K):=by
 subst h
 exact Zb id (fun r h=>h) k
theorem Ze {a:α}{X:Option β} (h:Q a X):ZV (some a) Q X:=fun b hb=>by cases hb;exact h
theorem Za0 {X:Option β}:ZV (none:Option α) Q X:=fun b hb=>by cases hb
noncomputable def evD (Γ:Ctx) (f:Nat) (args:List V):Option D:=bnd (evW Γ f args []) fun r=>(match fr r.2 6 r.1 with | some (x,_)=>some x | none=>none)
theorem ZpT (Γ:Ctx) (f:Nat) (args:List V) (K:V→Option β):bnd (evW Γ f args []) (ZlL K)=bnd (evD Γ f args) (fun x=>ZrN x K):=by
 unfold evD ZlL
 simp only[ZdP]
 cases evW Γ f args [] with
 | none=>rfl
 | some r=>
  dsimp only
  cases fr r.2 6 r.1 with
  | none=>rfl
  | some q=>rfl
theorem Zp {γ:Type}{Γ:Ctx}{f:Nat}{args args':List V}{E:Option γ}{A:γ→Option α}{K:V→Option β} (enc:γ→D) (w:∀r,E=some r→evD Γ f args'=some (enc r)) (ha:args=args') (k:∀r,E=some r→ZV (A r) Q (ZrN (enc r) K)):ZV (E.bind A) Q (bnd (evW Γ f args []) (ZlL K)):=by
 subst ha
 rw[ZpT]
 exact Zb enc w k
end
theorem Zpr {β δ:Type} (Γ:Ctx) (k0:Nat) (c:C) (e:Env) (H:Zi) (k:Ex→Env→Zi→Option β) (p:β→Option δ):bnd (Zgl Γ k0 c e H k) p=Zgl Γ k0 c e H fun x e H=>bnd (k x e H) p:=by
 rw[Zi2,Zi2]
 cases ZK Γ (evW Γ) itW k0 c e H with
 | none=>exact ZdP _ _
 | some q=>rfl
theorem ZbC (Γ:Ctx) (f:Nat) (fn:FnI) (args:List V) (hc:Γ.code f=some fn) (hn:Nat.beq args.length fn.nargs=true) :
  evD Γ f args=Zgl Γ 0 fn.body (ZdC 0 args) [] fun x e H1=>(match x with
   | .exit _=>none
   | _=>(match Zik e H1 fn.res with
    | some l=>Zev 0 [Zfo l] H1 fun _ vs H2=>(match vs with | [v]=>(match fr H2 6 v with | some (x,_)=>some x | none=>none) | _=>none)
    | none=>none)):=by
 unfold evD
 rw[Ze4 Γ f fn args [] hc hn,Zpr]
 refine congrArg (Zgl Γ 0 fn.body (ZdC 0 args) []) ?_
 funext x e H1
 have none_b:∀{γ δ:Type} (p:γ→Option δ),bnd none p=none:=fun p=>ZdP _ _
 cases x with
 | exit j=>exact none_b _
 | normal=>
  dsimp only
  cases Zik e H1 fn.res with
  | none=>exact none_b _
  | some l=>
   dsimp only
   rw[ZcM,ZcM]
   show bnd (match extract 0 [Zfo l] H1 with | some (L,vs,H)=>_ | none=>none) _=_
   cases extract 0 [Zfo l] H1 with
   | none=>exact none_b _
   | some q=>
    obtain⟨L,vs,H2⟩:=q
    match vs with
    | []=>exact none_b _
    | [v]=>exact Zh0 _ _
    | _ :: _ :: _=>exact none_b _
 | ret=>
  dsimp only
  cases Zik e H1 fn.res with
  | none=>exact none_b _
  | some l=>
   dsimp only
   rw[ZcM,ZcM]
   show bnd (match extract 0 [Zfo l] H1 with | some (L,vs,H)=>_ | none=>none) _=_
   cases extract 0 [Zfo l] H1 with
   | none=>exact none_b _
   | some q=>
    obtain⟨L,vs,H2⟩:=q
    match vs with
    | []=>exact none_b _
    | [v]=>exact Zh0 _ _
    | _ :: _ :: _=>exact none_b _
theorem Zud {Γ:Ctx}{f:Nat}{args:List V}{x:D} (n:Nat) (h:(match evN Γ n f args [] with | some (v,H)=>(match fr H 6 v with | some (x,_)=>some x | none=>none) | none=>none)=some x):evD Γ f args=some x:=by
 cases hn:evN Γ n f args [] with
 | none=>rw[hn] at h;cases h
 | some r=>
  rw[hn] at h
  obtain⟨v,H⟩:=r
  unfold evD
  rw[Ztn n hn,Zh0]
  exact h
theorem Zbc {S R β:Type}{Zav:S→Option (S⊕R)}{G:S→Option β} (x:R→β)
  (h:∀(s:S) (rec:S→Option R),(∀s r,rec s=some r→G s=some (x r))→ZV (Zav s) (fun t rhs=>(match t with | .inl s'=>∀r,rec s'=some r→rhs=some (x r) | .inr r=>rhs=some (x r))) (G s)):∀s r,lp Zav s=some r→G s=some (x r):=by
 intro s r hr
 obtain⟨n,hn⟩:=Zrm hr
 clear hr
 induction n generalizing s r with
 | zero=>cases hn
 | succ n ih=>
  unfold lpN at hn
  cases hs:Zav s with
  | none=>rw[hs] at hn;cases hn
  | some t=>
   rw[hs] at hn
   have:=h s (lpN Zav n) ih t hs
   cases t with
   | inl s'=>exact this r hn
   | inr r'=>cases hn;exact this
theorem Zc {S R β:Type}{G:Option β}{rec:S→Option R}{x:R→β}{s':S} (h:∀r,rec s'=some r→G=some (x r)):ZV (some (Sum.inl s')) (fun(t:S⊕R) (rhs:Option β)=>(match t with | .inl s'=>∀r,rec s'=some r→rhs=some (x r) | .inr r=>rhs=some (x r))) (bnd G some):=by
 intro a ha
 cases ha
 intro r hr
 rw[Znv]
 exact h r hr
theorem ZrS {Γ:Ctx}{f:Nat}{args:List V} (h:evD Γ f args=some (.bool true)):∃H',evW Γ f args []=some (.d (.bool true),H'):=by
 unfold evD at h
 rw[ZdP] at h
 cases he:evW Γ f args [] with
 | none=>rw[he] at h;cases h
 | some r=>
  obtain⟨v,H⟩:=r
  rw[he] at h
  refine⟨H,?_⟩
  dsimp only at h
  cases hf:fr H 6 v with
  | none=>rw[hf] at h;cases h
  | some q=>
   obtain⟨x,ks⟩:=q
   rw[hf] at h
   cases h
   unfold fr at hf
   split at hf
   ·rename_i x
    split at hf
    ·rename_i ts
     cases he:ZoS ts<;>rw[he] at hf<;>cases hf
    ·rename_i y hy
     cases he:x.esc<;>rw[he] at hf<;>cases hf
     rfl
   all_goals
    first
    | cases hf
    | (split at hf<;>first | cases hf | (rename_i sz' xs _;revert hf;cases Nat.beq _ sz'<;>intro hf<;>cases hf) | skip)
   all_goals
    rename_i l ks _
    first
    | (cases he:D.escs l<;>rw[he] at hf<;>cases hf)
    | cases hf
theorem Zoj {α β:Type}{A B:Option α}{Q:α→Option β→Prop}{X:Option β} (h:ZV A Q X):ZV (bif true then A else B) Q X:=h
theorem ZoQ {α β:Type}{A B:Option α}{Q:α→Option β→Prop}{X:Option β} (h:ZV B Q X):ZV (bif false then A else B) Q X:=h
abbrev w64 (n:Int):Int:=IntKind.i64.wrap n
section
variable {γ:Type}
theorem ZX (f:γ→D) (l:List γ):(((List.map f l).length:Nat):Int)=((l.length:Nat):Int):=by rw[List.length_map]
theorem Zmm {α:Type}:∀(l:List α) (i:Nat) (y:α),ZdV l i y=l.set i y
 | [],_,_=>rfl
 | _ :: _,0,_=>rfl
 | x :: l,i+1,y=>congrArg (x :: ·) (Zmm l i y)
theorem ZaC (f:γ→D) (l:List γ) (i:Nat) (y:γ):ZdV (List.map f l) i (f y)=List.map f (List.set l i y):=by rw[Zmm,List.map_set]
theorem Zg2 (f:γ→D) (l m:List γ):List.map f l++List.map f m=List.map f (l++m):=by rw[List.map_append]
theorem Zg6 (f:γ→D) (l:List γ) (n:Nat):Nat.ble ((List.map f l).length+n) lim=Nat.ble (l.length+n) lim:=by rw[List.length_map]
theorem ZhX (f:γ→D) (l:List γ):Nat.ble (List.map f l).length lim=Nat.ble l.length lim:=by rw[List.length_map]
theorem Zuj (f:γ→D) (l:List γ) (o n:Nat):List.take n (List.drop o (List.map f l))=List.map f (List.take n (List.drop o l)):=by rw[← List.map_drop,← List.map_take]
theorem Zpp (f:γ→D) (l:List γ) (hi:Nat):List.take (hi-0) (List.drop 0 (List.map f l))=List.map f (List.take hi l):=by rw[Zuj];rfl
theorem Zs0 (f:γ→D) (l:List γ) (hi:Nat):(Nat.ble 0 hi&&Nat.ble hi (List.map f l).length)=Nat.ble hi l.length:=by rw[List.length_map];cases hi<;>rfl
end
end Go.Proofs.YtnpidpcmpleiaaaDoorE
namespace Go.Proofs.YtnpidpcmpleiaaaDoor
open Go Go.Proofs.YtnpidpcmpleiaaaDoorE
set_option linter.unusedVariables false
def Znl:ByteArray:=⟨#[0,1,2,2,3,3,3,3,4,4,4,4,4,4,4,4,5,5,5,5,5,5,5,5,5,5,5,5,5,5,5,5,6,6,6,6,6,6,6,6,6,6,6,6,6,6,6,6,6,6,6,6,6,6,6,6,6,6,6,6,6,6,6,6,7,7,7,7,7,7,7,7,7,7,7,7,7,7,7,7,7,7,7,7,7,7,7,7,7,7,7,7,7,7,7,7,7,7,7,7,7,7,7,7,7,7,7,7,7,7,7,7,7,7,7,7,7,7,7,7,7,7,7,7,7,7,7,7,8,8,8,8,8,8,8,8,8,8,8,8,8,8,8,8,8,8,8,8,8,8,8,8,8,8,8,8,8,8,8,8,8,8,8,8,8,8,8,8,8,8,8,8,8,8,8,8,8,8,8,8,8,8,8,8,8,8,8,8,8,8,8,8,8,8,8,8,8,8,8,8,8,8,8,8,8,8,8,8,8,8,8,8,8,8,8,8,8,8,8,8,8,8,8,8,8,8,8,8,8,8,8,8,8,8,8,8,8,8,8,8,8,8,8,8,8,8,8,8,8,8,8,8,8,8,8,8]⟩
abbrev dA (t0 t1 t2 t3:Bool) (a:Zt):List D:=[(Zf a.period),(Zf a.deadline),(D.list t0 (List.map ZU a.parts)),(D.list t1 (List.map ZR a.edges)),(D.list t2 (List.map Zw a.futures)),(D.list t3 (List.map Zq a.barriers))]
abbrev dV (t0 t1 t2 t3:Bool) (a:Zt):List V:=[(.d (Zf a.period)),(.d (Zf a.deadline)),(.d (D.list t0 (List.map ZU a.parts))),(.d (D.list t1 (List.map ZR a.edges))),(.d (D.list t2 (List.map Zw a.futures))),(.d (D.list t3 (List.map Zq a.barriers)))]
def Zeg:Option Bool:=some true
noncomputable def Zdp (a:Zt) (s0:Int):Option (Int⊕(Unit⊕Unit)):=
 bif (decide (s0<(a.barriers.length:Int))) then
  bif (decide (s0<9)) then
   (ZF a.barriers s0).bind fun x1=>
   bif (decide (20<(x1.ins.length:Int))) then
    some (.inr (.inl ()))
   else
    bif (decide (20<(x1.outs.length:Int))) then
     some (.inr (.inl ()))
    else
     some (.inl (w64 (s0+1)))
  else
   some (.inr (.inr ()))
 else
  some (.inr (.inr ()))
noncomputable def Ze3 (a:Zt):Option Bool:=
 (lp (Zdp a) 0).bind fun r2=>
 match r2 with
 | (.inl r2)=>
  some false
 | (.inr r2)=>
  bif (decide ((a.parts.length:Int)≤20)) then
   bif (decide ((a.edges.length:Int)≤60)) then
    bif (decide ((a.futures.length:Int)≤20)) then
     bif (decide ((a.barriers.length:Int)≤8)) then
      some true
     else
      some false
    else
     some false
   else
    some false
  else
   some false
noncomputable def ZcW (a:Zt) (s0:Int×(List Zm)):Option ((Int×(List Zm))⊕(List Zm)):=
 bif (decide (s0.1<(a.barriers.length:Int))) then
  (ZF a.barriers s0.1).bind fun x1=>
  bif (Nat.ble (List.length x1.ins) lim) then
   bif (Nat.ble (List.length x1.outs) lim) then
    bif (Nat.ble (List.length s0.2+1) lim) then
     some (.inl ((w64 (s0.1+1)),(s0.2++[x1])))
    else
     none
   else
    none
  else
   none
 else
  some (.inr s0.2)
noncomputable def Zeq (a:Zt):Option (List Zm):=
 bif (Nat.ble (List.length a.parts) lim) then
  bif (Nat.ble (List.length a.edges) lim) then
   bif (Nat.ble (List.length a.futures) lim) then
    (lp (ZcW a) (0,([]:(List Zm)))).bind fun r2=>
    some r2
   else
    none
  else
   none
 else
  none
noncomputable def Za6 (a:Int) (b:Int) (c:Int):Option Bool:=
 bif (decide (b≤a)) then
  bif (decide (a≤c)) then
   some true
  else
   some false
 else
  some false
noncomputable def Ze0 (a:Int):Option Int:=
 bif (decide (a<0)) then
  some 10
 else
  bif (decide (1099511627775<a)) then
   some 11
  else
   some 0
noncomputable def ZbT (a:Int):Option Int:=
 some (IntKind.i64.wrap (BitVec.ofInt IntKind.i64.bits (w64 (IntKind.u64.wrap ((IntKind.u64.wrap ((IntKind.u64.wrap ((IntKind.u64.wrap (BitVec.ofInt IntKind.u64.bits (IntKind.u64.wrap ((Int.fdiv (IntKind.u64.wrap ((IntKind.u64.wrap (BitVec.ofInt IntKind.u64.bits (Int.fdiv (IntKind.u64.wrap ((IntKind.u64.wrap (BitVec.ofInt IntKind.u64.bits (Int.fdiv a (2 ^ 1)) &&& BitVec.ofInt IntKind.u64.bits 6148914691236517205).toNat)+(IntKind.u64.wrap (BitVec.ofInt IntKind.u64.bits a &&& BitVec.ofInt IntKind.u64.bits 6148914691236517205).toNat))) (2 ^ 2)) &&& BitVec.ofInt IntKind.u64.bits 3689348814741910323).toNat)+(IntKind.u64.wrap (BitVec.ofInt IntKind.u64.bits (IntKind.u64.wrap ((IntKind.u64.wrap (BitVec.ofInt IntKind.u64.bits (Int.fdiv a (2 ^ 1)) &&& BitVec.ofInt IntKind.u64.bits 6148914691236517205).toNat)+(IntKind.u64.wrap (BitVec.ofInt IntKind.u64.bits a &&& BitVec.ofInt IntKind.u64.bits 6148914691236517205).toNat))) &&& BitVec.ofInt IntKind.u64.bits 3689348814741910323).toNat))) (2 ^ 4))+(IntKind.u64.wrap ((IntKind.u64.wrap (BitVec.ofInt IntKind.u64.bits (Int.fdiv (IntKind.u64.wrap ((IntKind.u64.wrap (BitVec.ofInt IntKind.u64.bits (Int.fdiv a (2 ^ 1)) &&& BitVec.ofInt IntKind.u64.bits 6148914691236517205).toNat)+(IntKind.u64.wrap (BitVec.ofInt IntKind.u64.bits a &&& BitVec.ofInt IntKind.u64.bits 6148914691236517205).toNat))) (2 ^ 2)) &&& BitVec.ofInt IntKind.u64.bits 3689348814741910323).toNat)+(IntKind.u64.wrap (BitVec.ofInt IntKind.u64.bits (IntKind.u64.wrap ((IntKind.u64.wrap (BitVec.ofInt IntKind.u64.bits (Int.fdiv a (2 ^ 1)) &&& BitVec.ofInt IntKind.u64.bits 6148914691236517205).toNat)+(IntKind.u64.wrap (BitVec.ofInt IntKind.u64.bits a &&& BitVec.ofInt IntKind.u64.bits 6148914691236517205).toNat))) &&& BitVec.ofInt IntKind.u64.bits 3689348814741910323).toNat))))) &&& BitVec.ofInt IntKind.u64.bits 1085102592571150095).toNat)+(Int.fdiv (IntKind.u64.wrap (BitVec.ofInt IntKind.u64.bits (IntKind.u64.wrap ((Int.fdiv (IntKind.u64.wrap ((IntKind.u64.wrap (BitVec.ofInt IntKind.u64.bits (Int.fdiv (IntKind.u64.wrap ((IntKind.u64.wrap (BitVec.ofInt IntKind.u64.bits (Int.fdiv a (2 ^ 1)) &&& BitVec.ofInt IntKind.u64.bits 6148914691236517205).toNat)+(IntKind.u64.wrap (BitVec.ofInt IntKind.u64.bits a &&& BitVec.ofInt IntKind.u64.bits 6148914691236517205).toNat))) (2 ^ 2)) &&& BitVec.ofInt IntKind.u64.bits 3689348814741910323).toNat)+(IntKind.u64.wrap (BitVec.ofInt IntKind.u64.bits (IntKind.u64.wrap ((IntKind.u64.wrap (BitVec.ofInt IntKind.u64.bits (Int.fdiv a (2 ^ 1)) &&& BitVec.ofInt IntKind.u64.bits 6148914691236517205).toNat)+(IntKind.u64.wrap (BitVec.ofInt IntKind.u64.bits a &&& BitVec.ofInt IntKind.u64.bits 6148914691236517205).toNat))) &&& BitVec.ofInt IntKind.u64.bits 3689348814741910323).toNat))) (2 ^ 4))+(IntKind.u64.wrap ((IntKind.u64.wrap (BitVec.ofInt IntKind.u64.bits (Int.fdiv (IntKind.u64.wrap ((IntKind.u64.wrap (BitVec.ofInt IntKind.u64.bits (Int.fdiv a (2 ^ 1)) &&& BitVec.ofInt IntKind.u64.bits 6148914691236517205).toNat)+(IntKind.u64.wrap (BitVec.ofInt IntKind.u64.bits a &&& BitVec.ofInt IntKind.u64.bits 6148914691236517205).toNat))) (2 ^ 2)) &&& BitVec.ofInt IntKind.u64.bits 3689348814741910323).toNat)+(IntKind.u64.wrap (BitVec.ofInt IntKind.u64.bits (IntKind.u64.wrap ((IntKind.u64.wrap (BitVec.ofInt IntKind.u64.bits (Int.fdiv a (2 ^ 1)) &&& BitVec.ofInt IntKind.u64.bits 6148914691236517205).toNat)+(IntKind.u64.wrap (BitVec.ofInt IntKind.u64.bits a &&& BitVec.ofInt IntKind.u64.bits 6148914691236517205).toNat))) &&& BitVec.ofInt IntKind.u64.bits 3689348814741910323).toNat))))) &&& BitVec.ofInt IntKind.u64.bits 1085102592571150095).toNat) (2 ^ 8))))+(Int.fdiv (IntKind.u64.wrap ((IntKind.u64.wrap (BitVec.ofInt IntKind.u64.bits (IntKind.u64.wrap ((Int.fdiv (IntKind.u64.wrap ((IntKind.u64.wrap (BitVec.ofInt IntKind.u64.bits (Int.fdiv (IntKind.u64.wrap ((IntKind.u64.wrap (BitVec.ofInt IntKind.u64.bits (Int.fdiv a (2 ^ 1)) &&& BitVec.ofInt IntKind.u64.bits 6148914691236517205).toNat)+(IntKind.u64.wrap (BitVec.ofInt IntKind.u64.bits a &&& BitVec.ofInt IntKind.u64.bits 6148914691236517205).toNat))) (2 ^ 2)) &&& BitVec.ofInt IntKind.u64.bits 3689348814741910323).toNat)+(IntKind.u64.wrap (BitVec.ofInt IntKind.u64.bits (IntKind.u64.wrap ((IntKind.u64.wrap (BitVec.ofInt IntKind.u64.bits (Int.fdiv a (2 ^ 1)) &&& BitVec.ofInt IntKind.u64.bits 6148914691236517205).toNat)+(IntKind.u64.wrap (BitVec.ofInt IntKind.u64.bits a &&& BitVec.ofInt IntKind.u64.bits 6148914691236517205).toNat))) &&& BitVec.ofInt IntKind.u64.bits 3689348814741910323).toNat))) (2 ^ 4))+(IntKind.u64.wrap ((IntKind.u64.wrap (BitVec.ofInt IntKind.u64.bits (Int.fdiv (IntKind.u64.wrap ((IntKind.u64.wrap (BitVec.ofInt IntKind.u64.bits (Int.fdiv a (2 ^ 1)) &&& BitVec.ofInt IntKind.u64.bits 6148914691236517205).toNat)+(IntKind.u64.wrap (BitVec.ofInt IntKind.u64.bits a &&& BitVec.ofInt IntKind.u64.bits 6148914691236517205).toNat))) (2 ^ 2)) &&& BitVec.ofInt IntKind.u64.bits 3689348814741910323).toNat)+(IntKind.u64.wrap (BitVec.ofInt IntKind.u64.bits (IntKind.u64.wrap ((IntKind.u64.wrap (BitVec.ofInt IntKind.u64.bits (Int.fdiv a (2 ^ 1)) &&& BitVec.ofInt IntKind.u64.bits 6148914691236517205).toNat)+(IntKind.u64.wrap (BitVec.ofInt IntKind.u64.bits a &&& BitVec.ofInt IntKind.u64.bits 6148914691236517205).toNat))) &&& BitVec.ofInt IntKind.u64.bits 3689348814741910323).toNat))))) &&& BitVec.ofInt IntKind.u64.bits 1085102592571150095).toNat)+(Int.fdiv (IntKind.u64.wrap (BitVec.ofInt IntKind.u64.bits (IntKind.u64.wrap ((Int.fdiv (IntKind.u64.wrap ((IntKind.u64.wrap (BitVec.ofInt IntKind.u64.bits (Int.fdiv (IntKind.u64.wrap ((IntKind.u64.wrap (BitVec.ofInt IntKind.u64.bits (Int.fdiv a (2 ^ 1)) &&& BitVec.ofInt IntKind.u64.bits 6148914691236517205).toNat)+(IntKind.u64.wrap (BitVec.ofInt IntKind.u64.bits a &&& BitVec.ofInt IntKind.u64.bits 6148914691236517205).toNat))) (2 ^ 2)) &&& BitVec.ofInt IntKind.u64.bits 3689348814741910323).toNat)+(IntKind.u64.wrap (BitVec.ofInt IntKind.u64.bits (IntKind.u64.wrap ((IntKind.u64.wrap (BitVec.ofInt IntKind.u64.bits (Int.fdiv a (2 ^ 1)) &&& BitVec.ofInt IntKind.u64.bits 6148914691236517205).toNat)+(IntKind.u64.wrap (BitVec.ofInt IntKind.u64.bits a &&& BitVec.ofInt IntKind.u64.bits 6148914691236517205).toNat))) &&& BitVec.ofInt IntKind.u64.bits 3689348814741910323).toNat))) (2 ^ 4))+(IntKind.u64.wrap ((IntKind.u64.wrap (BitVec.ofInt IntKind.u64.bits (Int.fdiv (IntKind.u64.wrap ((IntKind.u64.wrap (BitVec.ofInt IntKind.u64.bits (Int.fdiv a (2 ^ 1)) &&& BitVec.ofInt IntKind.u64.bits 6148914691236517205).toNat)+(IntKind.u64.wrap (BitVec.ofInt IntKind.u64.bits a &&& BitVec.ofInt IntKind.u64.bits 6148914691236517205).toNat))) (2 ^ 2)) &&& BitVec.ofInt IntKind.u64.bits 3689348814741910323).toNat)+(IntKind.u64.wrap (BitVec.ofInt IntKind.u64.bits (IntKind.u64.wrap ((IntKind.u64.wrap (BitVec.ofInt IntKind.u64.bits (Int.fdiv a (2 ^ 1)) &&& BitVec.ofInt IntKind.u64.bits 6148914691236517205).toNat)+(IntKind.u64.wrap (BitVec.ofInt IntKind.u64.bits a &&& BitVec.ofInt IntKind.u64.bits 6148914691236517205).toNat))) &&& BitVec.ofInt IntKind.u64.bits 3689348814741910323).toNat))))) &&& BitVec.ofInt IntKind.u64.bits 1085102592571150095).toNat) (2 ^ 8)))) (2 ^ 16))))+(Int.fdiv (IntKind.u64.wrap ((IntKind.u64.wrap ((IntKind.u64.wrap (BitVec.ofInt IntKind.u64.bits (IntKind.u64.wrap ((Int.fdiv (IntKind.u64.wrap ((IntKind.u64.wrap (BitVec.ofInt IntKind.u64.bits (Int.fdiv (IntKind.u64.wrap ((IntKind.u64.wrap (BitVec.ofInt IntKind.u64.bits (Int.fdiv a (2 ^ 1)) &&& BitVec.ofInt IntKind.u64.bits 6148914691236517205).toNat)+(IntKind.u64.wrap (BitVec.ofInt IntKind.u64.bits a &&& BitVec.ofInt IntKind.u64.bits 6148914691236517205).toNat))) (2 ^ 2)) &&& BitVec.ofInt IntKind.u64.bits 3689348814741910323).toNat)+(IntKind.u64.wrap (BitVec.ofInt IntKind.u64.bits (IntKind.u64.wrap ((IntKind.u64.wrap (BitVec.ofInt IntKind.u64.bits (Int.fdiv a (2 ^ 1)) &&& BitVec.ofInt IntKind.u64.bits 6148914691236517205).toNat)+(IntKind.u64.wrap (BitVec.ofInt IntKind.u64.bits a &&& BitVec.ofInt IntKind.u64.bits 6148914691236517205).toNat))) &&& BitVec.ofInt IntKind.u64.bits 3689348814741910323).toNat))) (2 ^ 4))+(IntKind.u64.wrap ((IntKind.u64.wrap (BitVec.ofInt IntKind.u64.bits (Int.fdiv (IntKind.u64.wrap ((IntKind.u64.wrap (BitVec.ofInt IntKind.u64.bits (Int.fdiv a (2 ^ 1)) &&& BitVec.ofInt IntKind.u64.bits 6148914691236517205).toNat)+(IntKind.u64.wrap (BitVec.ofInt IntKind.u64.bits a &&& BitVec.ofInt IntKind.u64.bits 6148914691236517205).toNat))) (2 ^ 2)) &&& BitVec.ofInt IntKind.u64.bits 3689348814741910323).toNat)+(IntKind.u64.wrap (BitVec.ofInt IntKind.u64.bits (IntKind.u64.wrap ((IntKind.u64.wrap (BitVec.ofInt IntKind.u64.bits (Int.fdiv a (2 ^ 1)) &&& BitVec.ofInt IntKind.u64.bits 6148914691236517205).toNat)+(IntKind.u64.wrap (BitVec.ofInt IntKind.u64.bits a &&& BitVec.ofInt IntKind.u64.bits 6148914691236517205).toNat))) &&& BitVec.ofInt IntKind.u64.bits 3689348814741910323).toNat))))) &&& BitVec.ofInt IntKind.u64.bits 1085102592571150095).toNat)+(Int.fdiv (IntKind.u64.wrap (BitVec.ofInt IntKind.u64.bits (IntKind.u64.wrap ((Int.fdiv (IntKind.u64.wrap ((IntKind.u64.wrap (BitVec.ofInt IntKind.u64.bits (Int.fdiv (IntKind.u64.wrap ((IntKind.u64.wrap (BitVec.ofInt IntKind.u64.bits (Int.fdiv a (2 ^ 1)) &&& BitVec.ofInt IntKind.u64.bits 6148914691236517205).toNat)+(IntKind.u64.wrap (BitVec.ofInt IntKind.u64.bits a &&& BitVec.ofInt IntKind.u64.bits 6148914691236517205).toNat))) (2 ^ 2)) &&& BitVec.ofInt IntKind.u64.bits 3689348814741910323).toNat)+(IntKind.u64.wrap (BitVec.ofInt IntKind.u64.bits (IntKind.u64.wrap ((IntKind.u64.wrap (BitVec.ofInt IntKind.u64.bits (Int.fdiv a (2 ^ 1)) &&& BitVec.ofInt IntKind.u64.bits 6148914691236517205).toNat)+(IntKind.u64.wrap (BitVec.ofInt IntKind.u64.bits a &&& BitVec.ofInt IntKind.u64.bits 6148914691236517205).toNat))) &&& BitVec.ofInt IntKind.u64.bits 3689348814741910323).toNat))) (2 ^ 4))+(IntKind.u64.wrap ((IntKind.u64.wrap (BitVec.ofInt IntKind.u64.bits (Int.fdiv (IntKind.u64.wrap ((IntKind.u64.wrap (BitVec.ofInt IntKind.u64.bits (Int.fdiv a (2 ^ 1)) &&& BitVec.ofInt IntKind.u64.bits 6148914691236517205).toNat)+(IntKind.u64.wrap (BitVec.ofInt IntKind.u64.bits a &&& BitVec.ofInt IntKind.u64.bits 6148914691236517205).toNat))) (2 ^ 2)) &&& BitVec.ofInt IntKind.u64.bits 3689348814741910323).toNat)+(IntKind.u64.wrap (BitVec.ofInt IntKind.u64.bits (IntKind.u64.wrap ((IntKind.u64.wrap (BitVec.ofInt IntKind.u64.bits (Int.fdiv a (2 ^ 1)) &&& BitVec.ofInt IntKind.u64.bits 6148914691236517205).toNat)+(IntKind.u64.wrap (BitVec.ofInt IntKind.u64.bits a &&& BitVec.ofInt IntKind.u64.bits 6148914691236517205).toNat))) &&& BitVec.ofInt IntKind.u64.bits 3689348814741910323).toNat))))) &&& BitVec.ofInt IntKind.u64.bits 1085102592571150095).toNat) (2 ^ 8))))+(Int.fdiv (IntKind.u64.wrap ((IntKind.u64.wrap (BitVec.ofInt IntKind.u64.bits (IntKind.u64.wrap ((Int.fdiv (IntKind.u64.wrap ((IntKind.u64.wrap (BitVec.ofInt IntKind.u64.bits (Int.fdiv (IntKind.u64.wrap ((IntKind.u64.wrap (BitVec.ofInt IntKind.u64.bits (Int.fdiv a (2 ^ 1)) &&& BitVec.ofInt IntKind.u64.bits 6148914691236517205).toNat)+(IntKind.u64.wrap (BitVec.ofInt IntKind.u64.bits a &&& BitVec.ofInt IntKind.u64.bits 6148914691236517205).toNat))) (2 ^ 2)) &&& BitVec.ofInt IntKind.u64.bits 3689348814741910323).toNat)+(IntKind.u64.wrap (BitVec.ofInt IntKind.u64.bits (IntKind.u64.wrap ((IntKind.u64.wrap (BitVec.ofInt IntKind.u64.bits (Int.fdiv a (2 ^ 1)) &&& BitVec.ofInt IntKind.u64.bits 6148914691236517205).toNat)+(IntKind.u64.wrap (BitVec.ofInt IntKind.u64.bits a &&& BitVec.ofInt IntKind.u64.bits 6148914691236517205).toNat))) &&& BitVec.ofInt IntKind.u64.bits 3689348814741910323).toNat))) (2 ^ 4))+(IntKind.u64.wrap ((IntKind.u64.wrap (BitVec.ofInt IntKind.u64.bits (Int.fdiv (IntKind.u64.wrap ((IntKind.u64.wrap (BitVec.ofInt IntKind.u64.bits (Int.fdiv a (2 ^ 1)) &&& BitVec.ofInt IntKind.u64.bits 6148914691236517205).toNat)+(IntKind.u64.wrap (BitVec.ofInt IntKind.u64.bits a &&& BitVec.ofInt IntKind.u64.bits 6148914691236517205).toNat))) (2 ^ 2)) &&& BitVec.ofInt IntKind.u64.bits 3689348814741910323).toNat)+(IntKind.u64.wrap (BitVec.ofInt IntKind.u64.bits (IntKind.u64.wrap ((IntKind.u64.wrap (BitVec.ofInt IntKind.u64.bits (Int.fdiv a (2 ^ 1)) &&& BitVec.ofInt IntKind.u64.bits 6148914691236517205).toNat)+(IntKind.u64.wrap (BitVec.ofInt IntKind.u64.bits a &&& BitVec.ofInt IntKind.u64.bits 6148914691236517205).toNat))) &&& BitVec.ofInt IntKind.u64.bits 3689348814741910323).toNat))))) &&& BitVec.ofInt IntKind.u64.bits 1085102592571150095).toNat)+(Int.fdiv (IntKind.u64.wrap (BitVec.ofInt IntKind.u64.bits (IntKind.u64.wrap ((Int.fdiv (IntKind.u64.wrap ((IntKind.u64.wrap (BitVec.ofInt IntKind.u64.bits (Int.fdiv (IntKind.u64.wrap ((IntKind.u64.wrap (BitVec.ofInt IntKind.u64.bits (Int.fdiv a (2 ^ 1)) &&& BitVec.ofInt IntKind.u64.bits 6148914691236517205).toNat)+(IntKind.u64.wrap (BitVec.ofInt IntKind.u64.bits a &&& BitVec.ofInt IntKind.u64.bits 6148914691236517205).toNat))) (2 ^ 2)) &&& BitVec.ofInt IntKind.u64.bits 3689348814741910323).toNat)+(IntKind.u64.wrap (BitVec.ofInt IntKind.u64.bits (IntKind.u64.wrap ((IntKind.u64.wrap (BitVec.ofInt IntKind.u64.bits (Int.fdiv a (2 ^ 1)) &&& BitVec.ofInt IntKind.u64.bits 6148914691236517205).toNat)+(IntKind.u64.wrap (BitVec.ofInt IntKind.u64.bits a &&& BitVec.ofInt IntKind.u64.bits 6148914691236517205).toNat))) &&& BitVec.ofInt IntKind.u64.bits 3689348814741910323).toNat))) (2 ^ 4))+(IntKind.u64.wrap ((IntKind.u64.wrap (BitVec.ofInt IntKind.u64.bits (Int.fdiv (IntKind.u64.wrap ((IntKind.u64.wrap (BitVec.ofInt IntKind.u64.bits (Int.fdiv a (2 ^ 1)) &&& BitVec.ofInt IntKind.u64.bits 6148914691236517205).toNat)+(IntKind.u64.wrap (BitVec.ofInt IntKind.u64.bits a &&& BitVec.ofInt IntKind.u64.bits 6148914691236517205).toNat))) (2 ^ 2)) &&& BitVec.ofInt IntKind.u64.bits 3689348814741910323).toNat)+(IntKind.u64.wrap (BitVec.ofInt IntKind.u64.bits (IntKind.u64.wrap ((IntKind.u64.wrap (BitVec.ofInt IntKind.u64.bits (Int.fdiv a (2 ^ 1)) &&& BitVec.ofInt IntKind.u64.bits 6148914691236517205).toNat)+(IntKind.u64.wrap (BitVec.ofInt IntKind.u64.bits a &&& BitVec.ofInt IntKind.u64.bits 6148914691236517205).toNat))) &&& BitVec.ofInt IntKind.u64.bits 3689348814741910323).toNat))))) &&& BitVec.ofInt IntKind.u64.bits 1085102592571150095).toNat) (2 ^ 8)))) (2 ^ 16)))) (2 ^ 32))))) &&& BitVec.ofInt IntKind.i64.bits 127).toNat)
noncomputable def Zcb (a:Int):Option Int:=
 (ZbT a).bind fun x0=>
 some x0
def Znc:List Int:=[0,1,56,2,57,49,28,3,61,58,42,50,38,29,17,4,62,47,59,36,45,43,51,22,53,39,33,30,24,18,12,5,63,55,48,27,60,41,37,16,46,35,44,21,52,32,23,11,54,26,40,15,34,20,31,10,25,14,19,9,13,8,7,6]
def ZcJ (a:Int):Option Int:=some (bif a==0 then 64 else w64 (Znc.getD (Int.fdiv (IntKind.u64.wrap ((IntKind.u64.wrap (BitVec.ofInt IntKind.u64.bits a &&& BitVec.ofInt IntKind.u64.bits (IntKind.u64.wrap (0-a))).toNat)*285870213051353865)) (2 ^ (min (Int.toNat 58) IntKind.u64.bits))).toNat 0))
noncomputable def Zca (a:Int):Option Int:=
 (ZcJ a).bind fun x0=>
 some x0
noncomputable def ZgA (a:Int):Option (Int×Bool):=
 (Ze0 a).bind fun x0=>
 bif (x0 != 0) then
  some (0,false)
 else
  (Zcb (IntKind.u64.wrap a)).bind fun x1=>
  bif (x1 != 1) then
   some (0,false)
  else
   (Zca (IntKind.u64.wrap a)).bind fun x2=>
   some (x2,true)
noncomputable def Zdz (a:ZQ):Option Bool:=
 (Za6 a.op 0 5).bind fun x0=>
 bif x0 then
  (Za6 a.arg 0 2147483647).bind fun x1=>
  bif x1 then
   (Za6 a.work 1 100).bind fun x2=>
   bif x2 then
    some false
   else
    some true
  else
   some true
 else
  some true
noncomputable def ZaA (a:(List ZQ)) (b:(ZQ→Option Bool)) (s0:Int):Option (Int⊕(Int⊕Unit)):=
 bif (decide (s0<(a.length:Int))) then
  (ZF a s0).bind fun x1=>
  (b x1).bind fun x2=>
  bif x2 then
   some (.inr (.inl s0))
  else
   some (.inl (w64 (s0+1)))
 else
  some (.inr (.inr ()))
noncomputable def Zbx (a:(List ZQ)) (b:(ZQ→Option Bool)):Option Int:=
 (lp (ZaA a b) 0).bind fun r3=>
 match r3 with
 | (.inl r3)=>
  some r3
 | (.inr r3)=>
  some (-1)
noncomputable def ZaB (a:(List ZQ)) (b:(ZQ→Option Bool)):Option Bool:=
 (Zbx a b).bind fun x0=>
 bif (decide (0≤x0)) then
  some true
 else
  some false
noncomputable def ZeR (a:Zt) (b:Int) (c:Int):Option Bool:=
 bif (b != c) then
  (Za6 b 0 (w64 ((a.parts.length:Int)-1))).bind fun x0=>
  bif x0 then
   (Za6 c 0 (w64 ((a.parts.length:Int)-1))).bind fun x1=>
   bif x1 then
    some true
   else
    some false
  else
   some false
 else
  some false
noncomputable def ZaS (a:(List ZL)) (b:ZL) (s0:Int):Option (Int⊕(Int⊕Unit)):=
 bif (decide (s0<(a.length:Int))) then
  (ZF a s0).bind fun x1=>
  bif ((b.src==x1.src)&&((b.dst==x1.dst)&&true)) then
   some (.inr (.inl s0))
  else
   some (.inl (w64 (s0+1)))
 else
  some (.inr (.inr ()))
noncomputable def ZbY (a:(List ZL)) (b:ZL):Option Int:=
 (lp (ZaS a b) 0).bind fun r2=>
 match r2 with
 | (.inl r2)=>
  some r2
 | (.inr r2)=>
  some (-1)
noncomputable def ZaT (a:(List ZL)) (b:ZL):Option Bool:=
 (ZbY a b).bind fun x0=>
 bif (decide (0≤x0)) then
  some true
 else
  some false
noncomputable def Zcn (a:Zn) (b1:Int) (b2:Int):Option Bool:=
 bif (a.user==b1) then
  bif (a.pos==b2) then
   some true
  else
   some false
 else
  some false
noncomputable def Zam (a:(List Zn)) (b:(Zn→Option Bool)) (s0:Int):Option (Int⊕(Int⊕Unit)):=
 bif (decide (s0<(a.length:Int))) then
  (ZF a s0).bind fun x1=>
  (b x1).bind fun x2=>
  bif x2 then
   some (.inr (.inl s0))
  else
   some (.inl (w64 (s0+1)))
 else
  some (.inr (.inr ()))
noncomputable def ZaU (a:(List Zn)) (b:(Zn→Option Bool)):Option Int:=
 (lp (Zam a b) 0).bind fun r3=>
 match r3 with
 | (.inl r3)=>
  some r3
 | (.inr r3)=>
  some (-1)
noncomputable def Zan (a:(List Zn)) (b:(Zn→Option Bool)):Option Bool:=
 (ZaU a b).bind fun x0=>
 bif (decide (0≤x0)) then
  some true
 else
  some false
noncomputable def ZdN (a:Zt) (b:(List Int)) (s0:Int):Option (Int⊕(Unit⊕Unit)):=
 bif (decide (s0<(b.length:Int))) then
  (ZF b s0).bind fun x1=>
  (Za6 x1 0 (w64 ((a.parts.length:Int)-1))).bind fun x2=>
  bif x2 then
   bif (decide (0<s0)) then
    (ZF b (w64 (s0-1))).bind fun x3=>
    bif (decide (x1≤x3)) then
     some (.inr (.inl ()))
    else
     some (.inl (w64 (s0+1)))
   else
    some (.inl (w64 (s0+1)))
  else
   some (.inr (.inl ()))
 else
  some (.inr (.inr ()))
noncomputable def ZeS (a:Zt) (b:(List Int)):Option Bool:=
 (lp (ZdN a b) 0).bind fun r4=>
 match r4 with
 | (.inl r4)=>
  some false
 | (.inr r4)=>
  bif (decide (0<(b.length:Int))) then
   some true
  else
   some false
noncomputable def Zbe (a:(List Int)) (b:Int) (s0:Int):Option (Int⊕(Int⊕Unit)):=
 bif (decide (s0<(a.length:Int))) then
  (ZF a s0).bind fun x1=>
  bif (b==x1) then
   some (.inr (.inl s0))
  else
   some (.inl (w64 (s0+1)))
 else
  some (.inr (.inr ()))
noncomputable def Zcj (a:(List Int)) (b:Int):Option Int:=
 (lp (Zbe a b) 0).bind fun r2=>
 match r2 with
 | (.inl r2)=>
  some r2
 | (.inr r2)=>
  some (-1)
noncomputable def Zbb (a:(List Int)) (b:Int):Option Bool:=
 (Zcj a b).bind fun x0=>
 bif (decide (0≤x0)) then
  some true
 else
  some false
noncomputable def Zcp (a:Int) (b1:(List Int)):Option Bool:=
 (Zbb b1 a).bind fun x0=>
 bif x0 then
  some true
 else
  some false
noncomputable def ZaK (a:(List Int)) (b:(Int→Option Bool)) (s0:Int):Option (Int⊕(Int⊕Unit)):=
 bif (decide (s0<(a.length:Int))) then
  (ZF a s0).bind fun x1=>
  (b x1).bind fun x2=>
  bif x2 then
   some (.inr (.inl s0))
  else
   some (.inl (w64 (s0+1)))
 else
  some (.inr (.inr ()))
noncomputable def ZbN (a:(List Int)) (b:(Int→Option Bool)):Option Int:=
 (lp (ZaK a b) 0).bind fun r3=>
 match r3 with
 | (.inl r3)=>
  some r3
 | (.inr r3)=>
  some (-1)
noncomputable def ZaL (a:(List Int)) (b:(Int→Option Bool)):Option Bool:=
 (ZbN a b).bind fun x0=>
 bif (decide (0≤x0)) then
  some true
 else
  some false
noncomputable def Zcz (a:Zt) (s4:Int):Option (Int⊕(Unit⊕Unit)):=
 bif (decide (s4<(a.edges.length:Int))) then
  (ZF a.edges s4).bind fun x5=>
  (ZeR a x5.src x5.dst).bind fun x6=>
  bif x6 then
   bif (decide (0≤s4)) then
    bif (Nat.ble s4.toNat (List.length a.edges)) then
     (ZaT (List.take s4.toNat a.edges) x5).bind fun x7=>
     bif x7 then
      some (.inr (.inl ()))
     else
      some (.inl (w64 (s4+1)))
    else
     none
   else
    none
  else
   some (.inr (.inl ()))
 else
  some (.inr (.inr ()))
noncomputable def ZcD (a:Zt) (s9:Int):Option (Int⊕(Unit⊕Unit)):=
 bif (decide (s9<(a.futures.length:Int))) then
  (ZF a.futures s9).bind fun x10=>
  (ZeR a x10.maker x10.user).bind fun x11=>
  bif x11 then
   (ZF a.parts x10.user).bind fun x12=>
   (Za6 x10.pos 1 (w64 (x12.work-1))).bind fun x13=>
   bif x13 then
    bif (decide (0≤s9)) then
     bif (Nat.ble s9.toNat (List.length a.futures)) then
      (Zan (List.take s9.toNat a.futures) (fun z0=>Zcn z0 x10.user x10.pos)).bind fun x14=>
      bif x14 then
       some (.inr (.inl ()))
      else
       some (.inl (w64 (s9+1)))
     else
      none
    else
     none
   else
    some (.inr (.inl ()))
  else
   some (.inr (.inl ()))
 else
  some (.inr (.inr ()))
noncomputable def ZcB (a:Zt) (s16:Int):Option (Int⊕(Unit⊕Unit)):=
 bif (decide (s16<(a.barriers.length:Int))) then
  (ZF a.barriers s16).bind fun x17=>
  (ZeS a x17.ins).bind fun x18=>
  bif x18 then
   (ZeS a x17.outs).bind fun x19=>
   bif x19 then
    (ZaL x17.ins (fun z0=>Zcp z0 x17.outs)).bind fun x20=>
    bif x20 then
     some (.inr (.inl ()))
    else
     some (.inl (w64 (s16+1)))
   else
    some (.inr (.inl ()))
  else
   some (.inr (.inl ()))
 else
  some (.inr (.inr ()))
noncomputable def Zd5 (a:Zt):Option Int:=
 (Za6 (a.parts.length:Int) 1 16).bind fun x0=>
 bif x0 then
  bif (decide (48<(a.edges.length:Int))) then
   some 50
  else
   bif (decide (16<(a.futures.length:Int))) then
    some 50
   else
    bif (decide (4<(a.barriers.length:Int))) then
     some 50
    else
     (ZgA a.period).bind fun x1=>
     bif x1.2 then
      bif (decide (4096<a.period)) then
       some 51
      else
       (Za6 a.deadline 1 a.period).bind fun x2=>
       bif x2 then
        (ZaB a.parts (fun z0=>Zdz z0)).bind fun x3=>
        bif x3 then
         some 52
        else
         (lp (Zcz a) 0).bind fun r8=>
         match r8 with
         | (.inl r8)=>
          some 53
         | (.inr r8)=>
          (lp (ZcD a) 0).bind fun r15=>
          match r15 with
          | (.inl r15)=>
           some 54
          | (.inr r15)=>
           (lp (ZcB a) 0).bind fun r21=>
           match r21 with
           | (.inl r21)=>
            some 55
           | (.inr r21)=>
            some 0
       else
        some 51
     else
      some 51
 else
  some 50
noncomputable def Zl (a:Int) (b:Int) (c4:(List Zn)):Option Int:=
 (ZF c4 a).bind fun x0=>
 (ZF c4 b).bind fun x1=>
 some (w64 (x0.pos-x1.pos))
noncomputable def ZeE (a:Int):Option Int:=
 bif (decide (4294967296≤a)) then
  bif (decide (65536≤(Int.fdiv a (2 ^ 32)))) then
   bif (decide (256≤(Int.fdiv (Int.fdiv a (2 ^ 32)) (2 ^ 16)))) then
    bif (decide (0≤(IntKind.u8.wrap (Int.fdiv (Int.fdiv (Int.fdiv a (2 ^ 32)) (2 ^ 16)) (2 ^ 8))))) then
     (Znl[(IntKind.u8.wrap (Int.fdiv (Int.fdiv (Int.fdiv a (2 ^ 32)) (2 ^ 16)) (2 ^ 8))).toNat]?).bind fun x0=>
     some (w64 (56+(w64 (x0.toNat:Int))))
    else
     none
   else
    bif (decide (0≤(IntKind.u8.wrap (Int.fdiv (Int.fdiv a (2 ^ 32)) (2 ^ 16))))) then
     (Znl[(IntKind.u8.wrap (Int.fdiv (Int.fdiv a (2 ^ 32)) (2 ^ 16))).toNat]?).bind fun x1=>
     some (w64 (48+(w64 (x1.toNat:Int))))
    else
     none
  else
   bif (decide (256≤(Int.fdiv a (2 ^ 32)))) then
    bif (decide (0≤(IntKind.u8.wrap (Int.fdiv (Int.fdiv a (2 ^ 32)) (2 ^ 8))))) then
     (Znl[(IntKind.u8.wrap (Int.fdiv (Int.fdiv a (2 ^ 32)) (2 ^ 8))).toNat]?).bind fun x2=>
     some (w64 (40+(w64 (x2.toNat:Int))))
    else
     none
   else
    bif (decide (0≤(IntKind.u8.wrap (Int.fdiv a (2 ^ 32))))) then
     (Znl[(IntKind.u8.wrap (Int.fdiv a (2 ^ 32))).toNat]?).bind fun x3=>
     some (w64 (32+(w64 (x3.toNat:Int))))
    else
     none
 else
  bif (decide (65536≤a)) then
   bif (decide (256≤(Int.fdiv a (2 ^ 16)))) then
    bif (decide (0≤(IntKind.u8.wrap (Int.fdiv (Int.fdiv a (2 ^ 16)) (2 ^ 8))))) then
     (Znl[(IntKind.u8.wrap (Int.fdiv (Int.fdiv a (2 ^ 16)) (2 ^ 8))).toNat]?).bind fun x4=>
     some (w64 (24+(w64 (x4.toNat:Int))))
    else
     none
   else
    bif (decide (0≤(IntKind.u8.wrap (Int.fdiv a (2 ^ 16))))) then
     (Znl[(IntKind.u8.wrap (Int.fdiv a (2 ^ 16))).toNat]?).bind fun x5=>
     some (w64 (16+(w64 (x5.toNat:Int))))
    else
     none
  else
   bif (decide (256≤a)) then
    bif (decide (0≤(IntKind.u8.wrap (Int.fdiv a (2 ^ 8))))) then
     (Znl[(IntKind.u8.wrap (Int.fdiv a (2 ^ 8))).toNat]?).bind fun x6=>
     some (w64 (8+(w64 (x6.toNat:Int))))
    else
     none
   else
    bif (decide (0≤(IntKind.u8.wrap a))) then
     (Znl[(IntKind.u8.wrap a).toNat]?).bind fun x7=>
     some (w64 (0+(w64 (x7.toNat:Int))))
    else
     none
noncomputable def Zdb (a:Int):Option Int:=
 (ZeE a).bind fun x0=>
 some x0
noncomputable def ZO (b:Int) (d:(Int→Int→Option Int)) (s1:Int×(List Int)):Option ((Int×(List Int))⊕(List Int)):=
 bif (decide (b<s1.1)) then
  (ZF s1.2 s1.1).bind fun x2=>
  (ZF s1.2 (w64 (s1.1-1))).bind fun x3=>
  (d x2 x3).bind fun x4=>
  bif (decide (x4<0)) then
   (ZF (List.set s1.2 s1.1.toNat x3) (w64 (s1.1-1))).bind fun x5=>
   some (.inl ((w64 (s1.1-1)),(List.set (List.set s1.2 s1.1.toNat x3) (w64 (s1.1-1)).toNat x2)))
  else
   some (.inr s1.2)
 else
  some (.inr s1.2)
noncomputable def Z9 (b:Int) (c:Int) (d:(Int→Int→Option Int)) (s0:Int×(List Int)):Option ((Int×(List Int))⊕(List Int)):=
 bif (decide (s0.1<c)) then
  (lp (ZO b d) (s0.1,s0.2)).bind fun r6=>
  some (.inl ((w64 (s0.1+1)),r6))
 else
  some (.inr s0.2)
noncomputable def ZM (b:Int) (c:Int) (d:(Int→Int→Option Int)) (m0_0:(List Int)):Option (List Int):=
 (lp (Z9 b c d) ((w64 (b+1)),m0_0)).bind fun r7=>
 some r7
noncomputable def ZA (c:Int) (d:Int) (e:(Int→Int→Option Int)) (s0:Int×(List Int)):Option ((Int×(List Int))⊕((List Int)⊕(List Int))):=
 bif (decide (c≤(w64 ((w64 (2*s0.1))+1)))) then
  some (.inr (.inl s0.2))
 else
  bif (decide ((w64 ((w64 ((w64 (2*s0.1))+1))+1))<c)) then
   (ZF s0.2 (w64 (d+(w64 ((w64 (2*s0.1))+1))))).bind fun x1=>
   (ZF s0.2 (w64 ((w64 (d+(w64 ((w64 (2*s0.1))+1))))+1))).bind fun x2=>
   (e x1 x2).bind fun x3=>
   bif (decide (x3<0)) then
    (ZF s0.2 (w64 (d+s0.1))).bind fun x4=>
    (ZF s0.2 (w64 (d+(w64 ((w64 ((w64 (2*s0.1))+1))+1))))).bind fun x5=>
    (e x4 x5).bind fun x6=>
    bif (decide (x6<0)) then
     (ZF (List.set s0.2 (w64 (d+s0.1)).toNat x5) (w64 (d+(w64 ((w64 ((w64 (2*s0.1))+1))+1))))).bind fun x7=>
     some (.inl ((w64 ((w64 ((w64 (2*s0.1))+1))+1)),(List.set (List.set s0.2 (w64 (d+s0.1)).toNat x5) (w64 (d+(w64 ((w64 ((w64 (2*s0.1))+1))+1)))).toNat x4)))
    else
     some (.inr (.inr s0.2))
   else
    (ZF s0.2 (w64 (d+s0.1))).bind fun x8=>
    (e x8 x1).bind fun x9=>
    bif (decide (x9<0)) then
     (ZF (List.set s0.2 (w64 (d+s0.1)).toNat x1) (w64 (d+(w64 ((w64 (2*s0.1))+1))))).bind fun x10=>
     some (.inl ((w64 ((w64 (2*s0.1))+1)),(List.set (List.set s0.2 (w64 (d+s0.1)).toNat x1) (w64 (d+(w64 ((w64 (2*s0.1))+1)))).toNat x8)))
    else
     some (.inr (.inr s0.2))
  else
   (ZF s0.2 (w64 (d+s0.1))).bind fun x11=>
   (ZF s0.2 (w64 (d+(w64 ((w64 (2*s0.1))+1))))).bind fun x12=>
   (e x11 x12).bind fun x13=>
   bif (decide (x13<0)) then
    (ZF (List.set s0.2 (w64 (d+s0.1)).toNat x12) (w64 (d+(w64 ((w64 (2*s0.1))+1))))).bind fun x14=>
    some (.inl ((w64 ((w64 (2*s0.1))+1)),(List.set (List.set s0.2 (w64 (d+s0.1)).toNat x12) (w64 (d+(w64 ((w64 (2*s0.1))+1)))).toNat x11)))
   else
    some (.inr (.inr s0.2))
noncomputable def Zao (b:Int) (c:Int) (d:Int) (e:(Int→Int→Option Int)) (m0_0:(List Int)):Option (List Int):=
 (lp (ZA c d e) (b,m0_0)).bind fun r15=>
 match r15 with
 | (.inl r15)=>
  some r15
 | (.inr r15)=>
  some r15
noncomputable def Zar (b:Int) (c:Int) (d:(Int→Int→Option Int)) (s0:Int×(List Int)):Option ((Int×(List Int))⊕(List Int)):=
 bif (decide (0≤s0.1)) then
  (Zao s0.1 (w64 (c-b)) b d s0.2).bind fun x1=>
  some (.inl ((w64 (s0.1-1)),x1))
 else
  some (.inr s0.2)
noncomputable def Zas (b:Int) (d:(Int→Int→Option Int)) (s3:Int×(List Int)):Option ((Int×(List Int))⊕(List Int)):=
 bif (decide (0≤s3.1)) then
  (ZF s3.2 (w64 (b+s3.1))).bind fun x4=>
  (ZF s3.2 b).bind fun x5=>
  (ZF (List.set s3.2 b.toNat x4) (w64 (b+s3.1))).bind fun x6=>
  (Zao 0 s3.1 b d (List.set (List.set s3.2 b.toNat x4) (w64 (b+s3.1)).toNat x5)).bind fun x7=>
  some (.inl ((w64 (s3.1-1)),x7))
 else
  some (.inr s3.2)
noncomputable def ZY (b:Int) (c:Int) (d:(Int→Int→Option Int)) (m0_0:(List Int)):Option (List Int):=
 (lp (Zar b c d) ((w64 (Int.tdiv (w64 ((w64 (c-b))-1)) 2)),m0_0)).bind fun r2=>
 (lp (Zas b d) ((w64 ((w64 (c-b))-1)),r2)).bind fun r8=>
 some r8
noncomputable def Zay (b:Int) (c:Int) (e:(Int→Int→Option Int)) (m0_0:(List Int)) (m1_0:Int):Option (Int×Int×Int):=
 (ZF m0_0 c).bind fun x0=>
 (ZF m0_0 b).bind fun x1=>
 (e x0 x1).bind fun x2=>
 bif (decide (x2<0)) then
  some (c,b,(w64 (m1_0+1)))
 else
  some (b,c,m1_0)
noncomputable def Zax (b:Int) (c:Int) (d:Int) (f:(Int→Int→Option Int)) (m0_0:(List Int)) (m1_0:Int):Option (Int×Int):=
 (Zay b c f m0_0 m1_0).bind fun x0=>
 (Zay x0.2.1 d f m0_0 x0.2.2).bind fun x1=>
 (Zay x0.1 x1.1 f m0_0 x1.2.2).bind fun x2=>
 some (x2.2.1,x2.2.2)
noncomputable def ZZ (b:Int) (d:(Int→Int→Option Int)) (m0_0:(List Int)) (m1_0:Int):Option (Int×Int):=
 (Zax (w64 (b-1)) b (w64 (b+1)) d m0_0 m1_0).bind fun x0=>
 some (x0.1,x0.2)
noncomputable def ZD (b:Int) (c:Int) (d:(Int→Int→Option Int)) (m0_0:(List Int)):Option (Int×Int):=
 bif (decide (8≤(w64 (c-b)))) then
  bif (decide (50≤(w64 (c-b)))) then
   (ZZ (w64 (b+(w64 ((w64 (Int.tdiv (w64 (c-b)) 4))*1)))) d m0_0 0).bind fun x0=>
   (ZZ (w64 (b+(w64 ((w64 (Int.tdiv (w64 (c-b)) 4))*2)))) d m0_0 x0.2).bind fun x1=>
   (ZZ (w64 (b+(w64 ((w64 (Int.tdiv (w64 (c-b)) 4))*3)))) d m0_0 x1.2).bind fun x2=>
   (Zax x0.1 x1.1 x2.1 d m0_0 x2.2).bind fun x3=>
   bif (x3.2==0) then
    some (x3.1,1)
   else
    bif (x3.2==12) then
     some (x3.1,2)
    else
     some (x3.1,0)
  else
   (Zax (w64 (b+(w64 ((w64 (Int.tdiv (w64 (c-b)) 4))*1)))) (w64 (b+(w64 ((w64 (Int.tdiv (w64 (c-b)) 4))*2)))) (w64 (b+(w64 ((w64 (Int.tdiv (w64 (c-b)) 4))*3)))) d m0_0 0).bind fun x4=>
   bif (x4.2==0) then
    some (x4.1,1)
   else
    bif (x4.2==12) then
     some (x4.1,2)
    else
     some (x4.1,0)
 else
  some ((w64 (b+(w64 ((w64 (Int.tdiv (w64 (c-b)) 4))*2)))),1)
noncomputable def ZW (s0:Int×Int×(List Int)):Option ((Int×Int×(List Int))⊕(List Int)):=
 bif (decide (s0.1<s0.2.1)) then
  (ZF s0.2.2 s0.2.1).bind fun x1=>
  (ZF s0.2.2 s0.1).bind fun x2=>
  (ZF (List.set s0.2.2 s0.1.toNat x1) s0.2.1).bind fun x3=>
  some (.inl ((w64 (s0.1+1)),(w64 (s0.2.1-1)),(List.set (List.set s0.2.2 s0.1.toNat x1) s0.2.1.toNat x2)))
 else
  some (.inr s0.2.2)
noncomputable def ZC (b:Int) (c:Int) (d:(Int→Int→Option Int)) (m0_0:(List Int)):Option (List Int):=
 (lp (ZW) (b,(w64 (c-1)),m0_0)).bind fun r4=>
 some r4
noncomputable def ZB (c:Int) (d:(Int→Int→Option Int)) (s0:Int×Int×(List Int)) (s1:Int):Option (Int⊕Int):=
 bif (decide (s1<c)) then
  (ZF s0.2.2 s1).bind fun x2=>
  (ZF s0.2.2 (w64 (s1-1))).bind fun x3=>
  (d x2 x3).bind fun x4=>
  bif (decide (x4<0)) then
   some (.inr s1)
  else
   some (.inl (w64 (s1+1)))
 else
  some (.inr s1)
noncomputable def ZJ (d:(Int→Int→Option Int)) (s9:Int×(List Int)):Option ((Int×(List Int))⊕(List Int)):=
 bif (decide (1≤s9.1)) then
  (ZF s9.2 s9.1).bind fun x10=>
  (ZF s9.2 (w64 (s9.1-1))).bind fun x11=>
  (d x10 x11).bind fun x12=>
  bif (decide (x12<0)) then
   (ZF (List.set s9.2 s9.1.toNat x11) (w64 (s9.1-1))).bind fun x13=>
   some (.inl ((w64 (s9.1-1)),(List.set (List.set s9.2 s9.1.toNat x11) (w64 (s9.1-1)).toNat x10)))
  else
   some (.inr s9.2)
 else
  some (.inr s9.2)
noncomputable def Zz (c:Int) (d:(Int→Int→Option Int)) (s15:Int×(List Int)):Option ((Int×(List Int))⊕(List Int)):=
 bif (decide (s15.1<c)) then
  (ZF s15.2 s15.1).bind fun x16=>
  (ZF s15.2 (w64 (s15.1-1))).bind fun x17=>
  (d x16 x17).bind fun x18=>
  bif (decide (x18<0)) then
   (ZF (List.set s15.2 s15.1.toNat x17) (w64 (s15.1-1))).bind fun x19=>
   some (.inl ((w64 (s15.1+1)),(List.set (List.set s15.2 s15.1.toNat x17) (w64 (s15.1-1)).toNat x16)))
  else
   some (.inr s15.2)
 else
  some (.inr s15.2)
noncomputable def ZI (b:Int) (c:Int) (d:(Int→Int→Option Int)) (s0:Int×Int×(List Int)):Option ((Int×Int×(List Int))⊕((List Int)⊕((List Int)⊕(List Int)))):=
 bif (decide (s0.2.1<5)) then
  (lp (ZB c d s0) s0.1).bind fun r5=>
  bif (r5==c) then
   some (.inr (.inl s0.2.2))
  else
   bif (decide ((w64 (c-b))<50)) then
    some (.inr (.inr (.inl s0.2.2)))
   else
    (ZF s0.2.2 (w64 (r5-1))).bind fun x6=>
    (ZF s0.2.2 r5).bind fun x7=>
    (ZF (List.set s0.2.2 r5.toNat x6) (w64 (r5-1))).bind fun x8=>
    bif (decide (2≤(w64 (r5-b)))) then
     (lp (ZJ d) ((w64 (r5-1)),(List.set (List.set s0.2.2 r5.toNat x6) (w64 (r5-1)).toNat x7))).bind fun r14=>
     bif (decide (2≤(w64 (c-r5)))) then
      (lp (Zz c d) ((w64 (r5+1)),r14)).bind fun r20=>
      some (.inl (r5,(w64 (s0.2.1+1)),r20))
     else
      some (.inl (r5,(w64 (s0.2.1+1)),r14))
    else
     bif (decide (2≤(w64 (c-r5)))) then
      (lp (Zz c d) ((w64 (r5+1)),(List.set (List.set s0.2.2 r5.toNat x6) (w64 (r5-1)).toNat x7))).bind fun r26=>
      some (.inl (r5,(w64 (s0.2.1+1)),r26))
     else
      some (.inl (r5,(w64 (s0.2.1+1)),(List.set (List.set s0.2.2 r5.toNat x6) (w64 (r5-1)).toNat x7)))
 else
  some (.inr (.inr (.inr s0.2.2)))
noncomputable def ZE (b:Int) (c:Int) (d:(Int→Int→Option Int)) (m0_0:(List Int)):Option ((List Int)⊕(List Int)):=
 (lp (ZI b c d) ((w64 (b+1)),0,m0_0)).bind fun r27=>
 match r27 with
 | (.inl r27)=>
  some (.inl r27)
 | (.inr (.inl r27))=>
  some (.inr r27)
 | (.inr (.inr r27))=>
  some (.inr r27)
noncomputable def Zak (b:Int) (c:Int) (d:Int) (m0_0:(List Int)) (e:(Int→Int→Option Int)) (x0:Int) (x1:Int) (s3:Int):Option (Int⊕Int):=
 bif (decide (s3≤(w64 (c-1)))) then
  (ZF (List.set (List.set m0_0 b.toNat x0) d.toNat x1) s3).bind fun x4=>
  (ZF (List.set (List.set m0_0 b.toNat x0) d.toNat x1) b).bind fun x5=>
  (e x4 x5).bind fun x6=>
  bif (decide (x6<0)) then
   some (.inl (w64 (s3+1)))
  else
   some (.inr s3)
 else
  some (.inr s3)
noncomputable def Zaj (b:Int) (d:Int) (m0_0:(List Int)) (e:(Int→Int→Option Int)) (x0:Int) (x1:Int) (r7:Int) (s8:Int):Option (Int⊕Int):=
 bif (decide (r7≤s8)) then
  (ZF (List.set (List.set m0_0 b.toNat x0) d.toNat x1) s8).bind fun x9=>
  (ZF (List.set (List.set m0_0 b.toNat x0) d.toNat x1) b).bind fun x10=>
  (e x9 x10).bind fun x11=>
  bif (decide (x11<0)) then
   some (.inr s8)
  else
   some (.inl (w64 (s8-1)))
 else
  some (.inr s8)
noncomputable def Zal (b:Int) (e:(Int→Int→Option Int)) (s19:Int×Int×(List Int)) (s20:Int):Option (Int⊕Int):=
 bif (decide (s20≤s19.2.1)) then
  (ZF s19.2.2 s20).bind fun x21=>
  (ZF s19.2.2 b).bind fun x22=>
  (e x21 x22).bind fun x23=>
  bif (decide (x23<0)) then
   some (.inl (w64 (s20+1)))
  else
   some (.inr s20)
 else
  some (.inr s20)
noncomputable def Zah (b:Int) (e:(Int→Int→Option Int)) (s19:Int×Int×(List Int)) (r24:Int) (s25:Int):Option (Int⊕Int):=
 bif (decide (r24≤s25)) then
  (ZF s19.2.2 s25).bind fun x26=>
  (ZF s19.2.2 b).bind fun x27=>
  (e x26 x27).bind fun x28=>
  bif (decide (x28<0)) then
   some (.inr s25)
  else
   some (.inl (w64 (s25-1)))
 else
  some (.inr s25)
noncomputable def ZaF (b:Int) (e:(Int→Int→Option Int)) (s19:Int×Int×(List Int)):Option ((Int×Int×(List Int))⊕(Int×(List Int))):=
 (lp (Zal b e s19) s19.1).bind fun r24=>
 (lp (Zah b e s19 r24) s19.2.1).bind fun r29=>
 bif (decide (r29<r24)) then
  some (.inr (r29,s19.2.2))
 else
  (ZF s19.2.2 r29).bind fun x30=>
  (ZF s19.2.2 r24).bind fun x31=>
  (ZF (List.set s19.2.2 r24.toNat x30) r29).bind fun x32=>
  some (.inl ((w64 (r24+1)),(w64 (r29-1)),(List.set (List.set s19.2.2 r24.toNat x30) r29.toNat x31)))
noncomputable def Zj (b:Int) (c:Int) (d:Int) (e:(Int→Int→Option Int)) (m0_0:(List Int)):Option ((Int×(List Int))⊕(Int×(List Int))):=
 (ZF m0_0 d).bind fun x0=>
 (ZF m0_0 b).bind fun x1=>
 (ZF (List.set m0_0 b.toNat x0) d).bind fun x2=>
 (lp (Zak b c d m0_0 e x0 x1) (w64 (b+1))).bind fun r7=>
 (lp (Zaj b d m0_0 e x0 x1 r7) (w64 (c-1))).bind fun r12=>
 bif (decide (r12<r7)) then
  (ZF (List.set (List.set m0_0 b.toNat x0) d.toNat x1) b).bind fun x13=>
  (ZF (List.set (List.set m0_0 b.toNat x0) d.toNat x1) r12).bind fun x14=>
  (ZF (List.set (List.set (List.set m0_0 b.toNat x0) d.toNat x1) r12.toNat x13) b).bind fun x15=>
  some (.inl (r12,(List.set (List.set (List.set (List.set m0_0 b.toNat x0) d.toNat x1) r12.toNat x13) b.toNat x14)))
 else
  (ZF (List.set (List.set m0_0 b.toNat x0) d.toNat x1) r12).bind fun x16=>
  (ZF (List.set (List.set m0_0 b.toNat x0) d.toNat x1) r7).bind fun x17=>
  (ZF (List.set (List.set (List.set m0_0 b.toNat x0) d.toNat x1) r7.toNat x16) r12).bind fun x18=>
  (lp (ZaF b e) ((w64 (r7+1)),(w64 (r12-1)),(List.set (List.set (List.set (List.set m0_0 b.toNat x0) d.toNat x1) r7.toNat x16) r12.toNat x17))).bind fun r33=>
  (ZF r33.2 b).bind fun x34=>
  (ZF r33.2 r33.1).bind fun x35=>
  (ZF (List.set r33.2 r33.1.toNat x34) b).bind fun x36=>
  some (.inr (r33.1,(List.set (List.set r33.2 r33.1.toNat x34) b.toNat x35)))
noncomputable def Z4 (b:Int) (e:(Int→Int→Option Int)) (s3:Int×Int×(List Int)) (s4:Int):Option (Int⊕Int):=
 bif (decide (s4≤s3.2.1)) then
  (ZF s3.2.2 b).bind fun x5=>
  (ZF s3.2.2 s4).bind fun x6=>
  (e x5 x6).bind fun x7=>
  bif (decide (x7<0)) then
   some (.inr s4)
  else
   some (.inl (w64 (s4+1)))
 else
  some (.inr s4)
noncomputable def Z5 (b:Int) (e:(Int→Int→Option Int)) (s3:Int×Int×(List Int)) (r8:Int) (s9:Int):Option (Int⊕Int):=
 bif (decide (r8≤s9)) then
  (ZF s3.2.2 b).bind fun x10=>
  (ZF s3.2.2 s9).bind fun x11=>
  (e x10 x11).bind fun x12=>
  bif (decide (x12<0)) then
   some (.inl (w64 (s9-1)))
  else
   some (.inr s9)
 else
  some (.inr s9)
noncomputable def Zai (b:Int) (e:(Int→Int→Option Int)) (s3:Int×Int×(List Int)):Option ((Int×Int×(List Int))⊕(Int×(List Int))):=
 (lp (Z4 b e s3) s3.1).bind fun r8=>
 (lp (Z5 b e s3 r8) s3.2.1).bind fun r13=>
 bif (decide (r13<r8)) then
  some (.inr (r8,s3.2.2))
 else
  (ZF s3.2.2 r13).bind fun x14=>
  (ZF s3.2.2 r8).bind fun x15=>
  (ZF (List.set s3.2.2 r8.toNat x14) r13).bind fun x16=>
  some (.inl ((w64 (r8+1)),(w64 (r13-1)),(List.set (List.set s3.2.2 r8.toNat x14) r13.toNat x15)))
noncomputable def Zv (b:Int) (c:Int) (d:Int) (e:(Int→Int→Option Int)) (m0_0:(List Int)):Option (Int×(List Int)):=
 (ZF m0_0 d).bind fun x0=>
 (ZF m0_0 b).bind fun x1=>
 (ZF (List.set m0_0 b.toNat x0) d).bind fun x2=>
 (lp (Zai b e) ((w64 (b+1)),(w64 (c-1)),(List.set (List.set m0_0 b.toNat x0) d.toNat x1))).bind fun r17=>
 some (r17.1,r17.2)
noncomputable def ZbR (a:Int):Option Int:=
 (Zdb (IntKind.u64.wrap a)).bind fun x0=>
 bif (decide (x0<0)) then
  none
 else
  some (IntKind.u64.wrap (1*2 ^ (min (x0).toNat IntKind.u64.bits)))
noncomputable def ZcG:Option Unit:=
 some ()
noncomputable def Zaq (b:Int) (c:Int) (x0:Int) (s1:Int×(List Int)×Int):Option ((Int×(List Int)×Int)⊕(List Int)):=
 bif (decide (s1.1≤(w64 ((w64 (b+(w64 ((w64 (Int.tdiv (w64 (c-b)) 4))*2))))+1)))) then
  ZcG.bind fun x2=>
  bif (decide ((w64 (c-b))≤(w64 (IntKind.u64.wrap (BitVec.ofInt IntKind.u64.bits (IntKind.u64.wrap (BitVec.ofInt IntKind.u64.bits (IntKind.u64.wrap (BitVec.ofInt IntKind.u64.bits (IntKind.u64.wrap (BitVec.ofInt IntKind.u64.bits s1.2.2 ^^^ BitVec.ofInt IntKind.u64.bits (IntKind.u64.wrap (s1.2.2*2 ^ 13))).toNat) ^^^ BitVec.ofInt IntKind.u64.bits (Int.fdiv (IntKind.u64.wrap (BitVec.ofInt IntKind.u64.bits s1.2.2 ^^^ BitVec.ofInt IntKind.u64.bits (IntKind.u64.wrap (s1.2.2*2 ^ 13))).toNat) (2 ^ 7))).toNat) ^^^ BitVec.ofInt IntKind.u64.bits (IntKind.u64.wrap ((IntKind.u64.wrap (BitVec.ofInt IntKind.u64.bits (IntKind.u64.wrap (BitVec.ofInt IntKind.u64.bits s1.2.2 ^^^ BitVec.ofInt IntKind.u64.bits (IntKind.u64.wrap (s1.2.2*2 ^ 13))).toNat) ^^^ BitVec.ofInt IntKind.u64.bits (Int.fdiv (IntKind.u64.wrap (BitVec.ofInt IntKind.u64.bits s1.2.2 ^^^ BitVec.ofInt IntKind.u64.bits (IntKind.u64.wrap (s1.2.2*2 ^ 13))).toNat) (2 ^ 7))).toNat)*2 ^ 17))).toNat) &&& BitVec.ofInt IntKind.u64.bits (IntKind.u64.wrap (x0-1))).toNat)))) then
   (ZF s1.2.1 (w64 (b+(w64 ((w64 (IntKind.u64.wrap (BitVec.ofInt IntKind.u64.bits (IntKind.u64.wrap (BitVec.ofInt IntKind.u64.bits (IntKind.u64.wrap (BitVec.ofInt IntKind.u64.bits (IntKind.u64.wrap (BitVec.ofInt IntKind.u64.bits s1.2.2 ^^^ BitVec.ofInt IntKind.u64.bits (IntKind.u64.wrap (s1.2.2*2 ^ 13))).toNat) ^^^ BitVec.ofInt IntKind.u64.bits (Int.fdiv (IntKind.u64.wrap (BitVec.ofInt IntKind.u64.bits s1.2.2 ^^^ BitVec.ofInt IntKind.u64.bits (IntKind.u64.wrap (s1.2.2*2 ^ 13))).toNat) (2 ^ 7))).toNat) ^^^ BitVec.ofInt IntKind.u64.bits (IntKind.u64.wrap ((IntKind.u64.wrap (BitVec.ofInt IntKind.u64.bits (IntKind.u64.wrap (BitVec.ofInt IntKind.u64.bits s1.2.2 ^^^ BitVec.ofInt IntKind.u64.bits (IntKind.u64.wrap (s1.2.2*2 ^ 13))).toNat) ^^^ BitVec.ofInt IntKind.u64.bits (Int.fdiv (IntKind.u64.wrap (BitVec.ofInt IntKind.u64.bits s1.2.2 ^^^ BitVec.ofInt IntKind.u64.bits (IntKind.u64.wrap (s1.2.2*2 ^ 13))).toNat) (2 ^ 7))).toNat)*2 ^ 17))).toNat) &&& BitVec.ofInt IntKind.u64.bits (IntKind.u64.wrap (x0-1))).toNat))-(w64 (c-b))))))).bind fun x3=>
   (ZF s1.2.1 s1.1).bind fun x4=>
   (ZF (List.set s1.2.1 s1.1.toNat x3) (w64 (b+(w64 ((w64 (IntKind.u64.wrap (BitVec.ofInt IntKind.u64.bits (IntKind.u64.wrap (BitVec.ofInt IntKind.u64.bits (IntKind.u64.wrap (BitVec.ofInt IntKind.u64.bits (IntKind.u64.wrap (BitVec.ofInt IntKind.u64.bits s1.2.2 ^^^ BitVec.ofInt IntKind.u64.bits (IntKind.u64.wrap (s1.2.2*2 ^ 13))).toNat) ^^^ BitVec.ofInt IntKind.u64.bits (Int.fdiv (IntKind.u64.wrap (BitVec.ofInt IntKind.u64.bits s1.2.2 ^^^ BitVec.ofInt IntKind.u64.bits (IntKind.u64.wrap (s1.2.2*2 ^ 13))).toNat) (2 ^ 7))).toNat) ^^^ BitVec.ofInt IntKind.u64.bits (IntKind.u64.wrap ((IntKind.u64.wrap (BitVec.ofInt IntKind.u64.bits (IntKind.u64.wrap (BitVec.ofInt IntKind.u64.bits s1.2.2 ^^^ BitVec.ofInt IntKind.u64.bits (IntKind.u64.wrap (s1.2.2*2 ^ 13))).toNat) ^^^ BitVec.ofInt IntKind.u64.bits (Int.fdiv (IntKind.u64.wrap (BitVec.ofInt IntKind.u64.bits s1.2.2 ^^^ BitVec.ofInt IntKind.u64.bits (IntKind.u64.wrap (s1.2.2*2 ^ 13))).toNat) (2 ^ 7))).toNat)*2 ^ 17))).toNat) &&& BitVec.ofInt IntKind.u64.bits (IntKind.u64.wrap (x0-1))).toNat))-(w64 (c-b))))))).bind fun x5=>
   some (.inl ((w64 (s1.1+1)),(List.set (List.set s1.2.1 s1.1.toNat x3) (w64 (b+(w64 ((w64 (IntKind.u64.wrap (BitVec.ofInt IntKind.u64.bits (IntKind.u64.wrap (BitVec.ofInt IntKind.u64.bits (IntKind.u64.wrap (BitVec.ofInt IntKind.u64.bits (IntKind.u64.wrap (BitVec.ofInt IntKind.u64.bits s1.2.2 ^^^ BitVec.ofInt IntKind.u64.bits (IntKind.u64.wrap (s1.2.2*2 ^ 13))).toNat) ^^^ BitVec.ofInt IntKind.u64.bits (Int.fdiv (IntKind.u64.wrap (BitVec.ofInt IntKind.u64.bits s1.2.2 ^^^ BitVec.ofInt IntKind.u64.bits (IntKind.u64.wrap (s1.2.2*2 ^ 13))).toNat) (2 ^ 7))).toNat) ^^^ BitVec.ofInt IntKind.u64.bits (IntKind.u64.wrap ((IntKind.u64.wrap (BitVec.ofInt IntKind.u64.bits (IntKind.u64.wrap (BitVec.ofInt IntKind.u64.bits s1.2.2 ^^^ BitVec.ofInt IntKind.u64.bits (IntKind.u64.wrap (s1.2.2*2 ^ 13))).toNat) ^^^ BitVec.ofInt IntKind.u64.bits (Int.fdiv (IntKind.u64.wrap (BitVec.ofInt IntKind.u64.bits s1.2.2 ^^^ BitVec.ofInt IntKind.u64.bits (IntKind.u64.wrap (s1.2.2*2 ^ 13))).toNat) (2 ^ 7))).toNat)*2 ^ 17))).toNat) &&& BitVec.ofInt IntKind.u64.bits (IntKind.u64.wrap (x0-1))).toNat))-(w64 (c-b)))))).toNat x4),(IntKind.u64.wrap (BitVec.ofInt IntKind.u64.bits (IntKind.u64.wrap (BitVec.ofInt IntKind.u64.bits (IntKind.u64.wrap (BitVec.ofInt IntKind.u64.bits s1.2.2 ^^^ BitVec.ofInt IntKind.u64.bits (IntKind.u64.wrap (s1.2.2*2 ^ 13))).toNat) ^^^ BitVec.ofInt IntKind.u64.bits (Int.fdiv (IntKind.u64.wrap (BitVec.ofInt IntKind.u64.bits s1.2.2 ^^^ BitVec.ofInt IntKind.u64.bits (IntKind.u64.wrap (s1.2.2*2 ^ 13))).toNat) (2 ^ 7))).toNat) ^^^ BitVec.ofInt IntKind.u64.bits (IntKind.u64.wrap ((IntKind.u64.wrap (BitVec.ofInt IntKind.u64.bits (IntKind.u64.wrap (BitVec.ofInt IntKind.u64.bits s1.2.2 ^^^ BitVec.ofInt IntKind.u64.bits (IntKind.u64.wrap (s1.2.2*2 ^ 13))).toNat) ^^^ BitVec.ofInt IntKind.u64.bits (Int.fdiv (IntKind.u64.wrap (BitVec.ofInt IntKind.u64.bits s1.2.2 ^^^ BitVec.ofInt IntKind.u64.bits (IntKind.u64.wrap (s1.2.2*2 ^ 13))).toNat) (2 ^ 7))).toNat)*2 ^ 17))).toNat)))
  else
   (ZF s1.2.1 (w64 (b+(w64 (IntKind.u64.wrap (BitVec.ofInt IntKind.u64.bits (IntKind.u64.wrap (BitVec.ofInt IntKind.u64.bits (IntKind.u64.wrap (BitVec.ofInt IntKind.u64.bits (IntKind.u64.wrap (BitVec.ofInt IntKind.u64.bits s1.2.2 ^^^ BitVec.ofInt IntKind.u64.bits (IntKind.u64.wrap (s1.2.2*2 ^ 13))).toNat) ^^^ BitVec.ofInt IntKind.u64.bits (Int.fdiv (IntKind.u64.wrap (BitVec.ofInt IntKind.u64.bits s1.2.2 ^^^ BitVec.ofInt IntKind.u64.bits (IntKind.u64.wrap (s1.2.2*2 ^ 13))).toNat) (2 ^ 7))).toNat) ^^^ BitVec.ofInt IntKind.u64.bits (IntKind.u64.wrap ((IntKind.u64.wrap (BitVec.ofInt IntKind.u64.bits (IntKind.u64.wrap (BitVec.ofInt IntKind.u64.bits s1.2.2 ^^^ BitVec.ofInt IntKind.u64.bits (IntKind.u64.wrap (s1.2.2*2 ^ 13))).toNat) ^^^ BitVec.ofInt IntKind.u64.bits (Int.fdiv (IntKind.u64.wrap (BitVec.ofInt IntKind.u64.bits s1.2.2 ^^^ BitVec.ofInt IntKind.u64.bits (IntKind.u64.wrap (s1.2.2*2 ^ 13))).toNat) (2 ^ 7))).toNat)*2 ^ 17))).toNat) &&& BitVec.ofInt IntKind.u64.bits (IntKind.u64.wrap (x0-1))).toNat))))).bind fun x6=>
   (ZF s1.2.1 s1.1).bind fun x7=>
   (ZF (List.set s1.2.1 s1.1.toNat x6) (w64 (b+(w64 (IntKind.u64.wrap (BitVec.ofInt IntKind.u64.bits (IntKind.u64.wrap (BitVec.ofInt IntKind.u64.bits (IntKind.u64.wrap (BitVec.ofInt IntKind.u64.bits (IntKind.u64.wrap (BitVec.ofInt IntKind.u64.bits s1.2.2 ^^^ BitVec.ofInt IntKind.u64.bits (IntKind.u64.wrap (s1.2.2*2 ^ 13))).toNat) ^^^ BitVec.ofInt IntKind.u64.bits (Int.fdiv (IntKind.u64.wrap (BitVec.ofInt IntKind.u64.bits s1.2.2 ^^^ BitVec.ofInt IntKind.u64.bits (IntKind.u64.wrap (s1.2.2*2 ^ 13))).toNat) (2 ^ 7))).toNat) ^^^ BitVec.ofInt IntKind.u64.bits (IntKind.u64.wrap ((IntKind.u64.wrap (BitVec.ofInt IntKind.u64.bits (IntKind.u64.wrap (BitVec.ofInt IntKind.u64.bits s1.2.2 ^^^ BitVec.ofInt IntKind.u64.bits (IntKind.u64.wrap (s1.2.2*2 ^ 13))).toNat) ^^^ BitVec.ofInt IntKind.u64.bits (Int.fdiv (IntKind.u64.wrap (BitVec.ofInt IntKind.u64.bits s1.2.2 ^^^ BitVec.ofInt IntKind.u64.bits (IntKind.u64.wrap (s1.2.2*2 ^ 13))).toNat) (2 ^ 7))).toNat)*2 ^ 17))).toNat) &&& BitVec.ofInt IntKind.u64.bits (IntKind.u64.wrap (x0-1))).toNat))))).bind fun x8=>
   some (.inl ((w64 (s1.1+1)),(List.set (List.set s1.2.1 s1.1.toNat x6) (w64 (b+(w64 (IntKind.u64.wrap (BitVec.ofInt IntKind.u64.bits (IntKind.u64.wrap (BitVec.ofInt IntKind.u64.bits (IntKind.u64.wrap (BitVec.ofInt IntKind.u64.bits (IntKind.u64.wrap (BitVec.ofInt IntKind.u64.bits s1.2.2 ^^^ BitVec.ofInt IntKind.u64.bits (IntKind.u64.wrap (s1.2.2*2 ^ 13))).toNat) ^^^ BitVec.ofInt IntKind.u64.bits (Int.fdiv (IntKind.u64.wrap (BitVec.ofInt IntKind.u64.bits s1.2.2 ^^^ BitVec.ofInt IntKind.u64.bits (IntKind.u64.wrap (s1.2.2*2 ^ 13))).toNat) (2 ^ 7))).toNat) ^^^ BitVec.ofInt IntKind.u64.bits (IntKind.u64.wrap ((IntKind.u64.wrap (BitVec.ofInt IntKind.u64.bits (IntKind.u64.wrap (BitVec.ofInt IntKind.u64.bits s1.2.2 ^^^ BitVec.ofInt IntKind.u64.bits (IntKind.u64.wrap (s1.2.2*2 ^ 13))).toNat) ^^^ BitVec.ofInt IntKind.u64.bits (Int.fdiv (IntKind.u64.wrap (BitVec.ofInt IntKind.u64.bits s1.2.2 ^^^ BitVec.ofInt IntKind.u64.bits (IntKind.u64.wrap (s1.2.2*2 ^ 13))).toNat) (2 ^ 7))).toNat)*2 ^ 17))).toNat) &&& BitVec.ofInt IntKind.u64.bits (IntKind.u64.wrap (x0-1))).toNat)))).toNat x7),(IntKind.u64.wrap (BitVec.ofInt IntKind.u64.bits (IntKind.u64.wrap (BitVec.ofInt IntKind.u64.bits (IntKind.u64.wrap (BitVec.ofInt IntKind.u64.bits s1.2.2 ^^^ BitVec.ofInt IntKind.u64.bits (IntKind.u64.wrap (s1.2.2*2 ^ 13))).toNat) ^^^ BitVec.ofInt IntKind.u64.bits (Int.fdiv (IntKind.u64.wrap (BitVec.ofInt IntKind.u64.bits s1.2.2 ^^^ BitVec.ofInt IntKind.u64.bits (IntKind.u64.wrap (s1.2.2*2 ^ 13))).toNat) (2 ^ 7))).toNat) ^^^ BitVec.ofInt IntKind.u64.bits (IntKind.u64.wrap ((IntKind.u64.wrap (BitVec.ofInt IntKind.u64.bits (IntKind.u64.wrap (BitVec.ofInt IntKind.u64.bits s1.2.2 ^^^ BitVec.ofInt IntKind.u64.bits (IntKind.u64.wrap (s1.2.2*2 ^ 13))).toNat) ^^^ BitVec.ofInt IntKind.u64.bits (Int.fdiv (IntKind.u64.wrap (BitVec.ofInt IntKind.u64.bits s1.2.2 ^^^ BitVec.ofInt IntKind.u64.bits (IntKind.u64.wrap (s1.2.2*2 ^ 13))).toNat) (2 ^ 7))).toNat)*2 ^ 17))).toNat)))
 else
  some (.inr s1.2.1)
noncomputable def Z2 (b:Int) (c:Int) (d:(Int→Int→Option Int)) (m0_0:(List Int)):Option (List Int):=
 bif (decide (8≤(w64 (c-b)))) then
  (ZbR (w64 (c-b))).bind fun x0=>
  (lp (Zaq b c x0) ((w64 ((w64 (b+(w64 ((w64 (Int.tdiv (w64 (c-b)) 4))*2))))-1)),m0_0,(IntKind.u64.wrap (w64 (c-b))))).bind fun r9=>
  some r9
 else
  some m0_0
noncomputable def ZH (e:(Int→Int→Option Int)) (rc:Int→Int→Int→(Int→Int→Option Int)→(List Int)→Option (List Int)) (s0:Int×Int×Int×Bool×Bool×(List Int)):Option ((Int×Int×Int×Bool×Bool×(List Int))⊕(List Int)):=
 bif s0.2.2.2.1 then
  bif s0.2.2.2.2.1 then
   bif (decide ((w64 (s0.2.1-s0.1))≤12)) then
    (ZM s0.1 s0.2.1 e s0.2.2.2.2.2).bind fun x1=>
    some (.inr x1)
   else
    bif (s0.2.2.1==0) then
     (ZY s0.1 s0.2.1 e s0.2.2.2.2.2).bind fun x2=>
     some (.inr x2)
    else
     (ZD s0.1 s0.2.1 e s0.2.2.2.2.2).bind fun x3=>
     bif (x3.2==2) then
      (ZC s0.1 s0.2.1 e s0.2.2.2.2.2).bind fun x4=>
      (ZE s0.1 s0.2.1 e x4).bind fun x5=>
      match x5 with
      | (.inl x5)=>
       some (.inr x5)
      | (.inr x5)=>
       bif (decide (0<s0.1)) then
        (ZF x5 (w64 (s0.1-1))).bind fun x6=>
        (ZF x5 (w64 ((w64 (s0.2.1-1))-(w64 (x3.1-s0.1))))).bind fun x7=>
        (e x6 x7).bind fun x8=>
        bif (decide (x8<0)) then
         (Zj s0.1 s0.2.1 (w64 ((w64 (s0.2.1-1))-(w64 (x3.1-s0.1)))) e x5).bind fun x9=>
         match x9 with
         | (.inl x9)=>
          bif (decide ((w64 (x9.1-s0.1))<(w64 (s0.2.1-x9.1)))) then
           bif (decide ((w64 (Int.tdiv (w64 (s0.2.1-s0.1)) 8))≤(w64 (x9.1-s0.1)))) then
            (rc s0.1 x9.1 s0.2.2.1 e x9.2).bind fun x10=>
            some (.inl ((w64 (x9.1+1)),s0.2.1,s0.2.2.1,true,true,x10))
           else
            (rc s0.1 x9.1 s0.2.2.1 e x9.2).bind fun x11=>
            some (.inl ((w64 (x9.1+1)),s0.2.1,s0.2.2.1,false,true,x11))
          else
           bif (decide ((w64 (Int.tdiv (w64 (s0.2.1-s0.1)) 8))≤(w64 (s0.2.1-x9.1)))) then
            (rc (w64 (x9.1+1)) s0.2.1 s0.2.2.1 e x9.2).bind fun x12=>
            some (.inl (s0.1,x9.1,s0.2.2.1,true,true,x12))
           else
            (rc (w64 (x9.1+1)) s0.2.1 s0.2.2.1 e x9.2).bind fun x13=>
            some (.inl (s0.1,x9.1,s0.2.2.1,false,true,x13))
         | (.inr x9)=>
          bif (decide ((w64 (x9.1-s0.1))<(w64 (s0.2.1-x9.1)))) then
           bif (decide ((w64 (Int.tdiv (w64 (s0.2.1-s0.1)) 8))≤(w64 (x9.1-s0.1)))) then
            (rc s0.1 x9.1 s0.2.2.1 e x9.2).bind fun x14=>
            some (.inl ((w64 (x9.1+1)),s0.2.1,s0.2.2.1,true,false,x14))
           else
            (rc s0.1 x9.1 s0.2.2.1 e x9.2).bind fun x15=>
            some (.inl ((w64 (x9.1+1)),s0.2.1,s0.2.2.1,false,false,x15))
          else
           bif (decide ((w64 (Int.tdiv (w64 (s0.2.1-s0.1)) 8))≤(w64 (s0.2.1-x9.1)))) then
            (rc (w64 (x9.1+1)) s0.2.1 s0.2.2.1 e x9.2).bind fun x16=>
            some (.inl (s0.1,x9.1,s0.2.2.1,true,false,x16))
           else
            (rc (w64 (x9.1+1)) s0.2.1 s0.2.2.1 e x9.2).bind fun x17=>
            some (.inl (s0.1,x9.1,s0.2.2.1,false,false,x17))
        else
         (Zv s0.1 s0.2.1 (w64 ((w64 (s0.2.1-1))-(w64 (x3.1-s0.1)))) e x5).bind fun x18=>
         some (.inl (x18.1,s0.2.1,s0.2.2.1,true,true,x18.2))
       else
        (Zj s0.1 s0.2.1 (w64 ((w64 (s0.2.1-1))-(w64 (x3.1-s0.1)))) e x5).bind fun x19=>
        match x19 with
        | (.inl x19)=>
         bif (decide ((w64 (x19.1-s0.1))<(w64 (s0.2.1-x19.1)))) then
          bif (decide ((w64 (Int.tdiv (w64 (s0.2.1-s0.1)) 8))≤(w64 (x19.1-s0.1)))) then
           (rc s0.1 x19.1 s0.2.2.1 e x19.2).bind fun x20=>
           some (.inl ((w64 (x19.1+1)),s0.2.1,s0.2.2.1,true,true,x20))
          else
           (rc s0.1 x19.1 s0.2.2.1 e x19.2).bind fun x21=>
           some (.inl ((w64 (x19.1+1)),s0.2.1,s0.2.2.1,false,true,x21))
         else
          bif (decide ((w64 (Int.tdiv (w64 (s0.2.1-s0.1)) 8))≤(w64 (s0.2.1-x19.1)))) then
           (rc (w64 (x19.1+1)) s0.2.1 s0.2.2.1 e x19.2).bind fun x22=>
           some (.inl (s0.1,x19.1,s0.2.2.1,true,true,x22))
          else
           (rc (w64 (x19.1+1)) s0.2.1 s0.2.2.1 e x19.2).bind fun x23=>
           some (.inl (s0.1,x19.1,s0.2.2.1,false,true,x23))
        | (.inr x19)=>
         bif (decide ((w64 (x19.1-s0.1))<(w64 (s0.2.1-x19.1)))) then
          bif (decide ((w64 (Int.tdiv (w64 (s0.2.1-s0.1)) 8))≤(w64 (x19.1-s0.1)))) then
           (rc s0.1 x19.1 s0.2.2.1 e x19.2).bind fun x24=>
           some (.inl ((w64 (x19.1+1)),s0.2.1,s0.2.2.1,true,false,x24))
          else
           (rc s0.1 x19.1 s0.2.2.1 e x19.2).bind fun x25=>
           some (.inl ((w64 (x19.1+1)),s0.2.1,s0.2.2.1,false,false,x25))
         else
          bif (decide ((w64 (Int.tdiv (w64 (s0.2.1-s0.1)) 8))≤(w64 (s0.2.1-x19.1)))) then
           (rc (w64 (x19.1+1)) s0.2.1 s0.2.2.1 e x19.2).bind fun x26=>
           some (.inl (s0.1,x19.1,s0.2.2.1,true,false,x26))
          else
           (rc (w64 (x19.1+1)) s0.2.1 s0.2.2.1 e x19.2).bind fun x27=>
           some (.inl (s0.1,x19.1,s0.2.2.1,false,false,x27))
     else
      bif (x3.2==1) then
       (ZE s0.1 s0.2.1 e s0.2.2.2.2.2).bind fun x28=>
       match x28 with
       | (.inl x28)=>
        some (.inr x28)
       | (.inr x28)=>
        bif (decide (0<s0.1)) then
         (ZF x28 (w64 (s0.1-1))).bind fun x29=>
         (ZF x28 x3.1).bind fun x30=>
         (e x29 x30).bind fun x31=>
         bif (decide (x31<0)) then
          (Zj s0.1 s0.2.1 x3.1 e x28).bind fun x32=>
          match x32 with
          | (.inl x32)=>
           bif (decide ((w64 (x32.1-s0.1))<(w64 (s0.2.1-x32.1)))) then
            bif (decide ((w64 (Int.tdiv (w64 (s0.2.1-s0.1)) 8))≤(w64 (x32.1-s0.1)))) then
             (rc s0.1 x32.1 s0.2.2.1 e x32.2).bind fun x33=>
             some (.inl ((w64 (x32.1+1)),s0.2.1,s0.2.2.1,true,true,x33))
            else
             (rc s0.1 x32.1 s0.2.2.1 e x32.2).bind fun x34=>
             some (.inl ((w64 (x32.1+1)),s0.2.1,s0.2.2.1,false,true,x34))
           else
            bif (decide ((w64 (Int.tdiv (w64 (s0.2.1-s0.1)) 8))≤(w64 (s0.2.1-x32.1)))) then
             (rc (w64 (x32.1+1)) s0.2.1 s0.2.2.1 e x32.2).bind fun x35=>
             some (.inl (s0.1,x32.1,s0.2.2.1,true,true,x35))
            else
             (rc (w64 (x32.1+1)) s0.2.1 s0.2.2.1 e x32.2).bind fun x36=>
             some (.inl (s0.1,x32.1,s0.2.2.1,false,true,x36))
          | (.inr x32)=>
           bif (decide ((w64 (x32.1-s0.1))<(w64 (s0.2.1-x32.1)))) then
            bif (decide ((w64 (Int.tdiv (w64 (s0.2.1-s0.1)) 8))≤(w64 (x32.1-s0.1)))) then
             (rc s0.1 x32.1 s0.2.2.1 e x32.2).bind fun x37=>
             some (.inl ((w64 (x32.1+1)),s0.2.1,s0.2.2.1,true,false,x37))
            else
             (rc s0.1 x32.1 s0.2.2.1 e x32.2).bind fun x38=>
             some (.inl ((w64 (x32.1+1)),s0.2.1,s0.2.2.1,false,false,x38))
           else
            bif (decide ((w64 (Int.tdiv (w64 (s0.2.1-s0.1)) 8))≤(w64 (s0.2.1-x32.1)))) then
             (rc (w64 (x32.1+1)) s0.2.1 s0.2.2.1 e x32.2).bind fun x39=>
             some (.inl (s0.1,x32.1,s0.2.2.1,true,false,x39))
            else
             (rc (w64 (x32.1+1)) s0.2.1 s0.2.2.1 e x32.2).bind fun x40=>
             some (.inl (s0.1,x32.1,s0.2.2.1,false,false,x40))
         else
          (Zv s0.1 s0.2.1 x3.1 e x28).bind fun x41=>
          some (.inl (x41.1,s0.2.1,s0.2.2.1,true,true,x41.2))
        else
         (Zj s0.1 s0.2.1 x3.1 e x28).bind fun x42=>
         match x42 with
         | (.inl x42)=>
          bif (decide ((w64 (x42.1-s0.1))<(w64 (s0.2.1-x42.1)))) then
           bif (decide ((w64 (Int.tdiv (w64 (s0.2.1-s0.1)) 8))≤(w64 (x42.1-s0.1)))) then
            (rc s0.1 x42.1 s0.2.2.1 e x42.2).bind fun x43=>
            some (.inl ((w64 (x42.1+1)),s0.2.1,s0.2.2.1,true,true,x43))
           else
            (rc s0.1 x42.1 s0.2.2.1 e x42.2).bind fun x44=>
            some (.inl ((w64 (x42.1+1)),s0.2.1,s0.2.2.1,false,true,x44))
          else
           bif (decide ((w64 (Int.tdiv (w64 (s0.2.1-s0.1)) 8))≤(w64 (s0.2.1-x42.1)))) then
            (rc (w64 (x42.1+1)) s0.2.1 s0.2.2.1 e x42.2).bind fun x45=>
            some (.inl (s0.1,x42.1,s0.2.2.1,true,true,x45))
           else
            (rc (w64 (x42.1+1)) s0.2.1 s0.2.2.1 e x42.2).bind fun x46=>
            some (.inl (s0.1,x42.1,s0.2.2.1,false,true,x46))
         | (.inr x42)=>
          bif (decide ((w64 (x42.1-s0.1))<(w64 (s0.2.1-x42.1)))) then
           bif (decide ((w64 (Int.tdiv (w64 (s0.2.1-s0.1)) 8))≤(w64 (x42.1-s0.1)))) then
            (rc s0.1 x42.1 s0.2.2.1 e x42.2).bind fun x47=>
            some (.inl ((w64 (x42.1+1)),s0.2.1,s0.2.2.1,true,false,x47))
           else
            (rc s0.1 x42.1 s0.2.2.1 e x42.2).bind fun x48=>
            some (.inl ((w64 (x42.1+1)),s0.2.1,s0.2.2.1,false,false,x48))
          else
           bif (decide ((w64 (Int.tdiv (w64 (s0.2.1-s0.1)) 8))≤(w64 (s0.2.1-x42.1)))) then
            (rc (w64 (x42.1+1)) s0.2.1 s0.2.2.1 e x42.2).bind fun x49=>
            some (.inl (s0.1,x42.1,s0.2.2.1,true,false,x49))
           else
            (rc (w64 (x42.1+1)) s0.2.1 s0.2.2.1 e x42.2).bind fun x50=>
            some (.inl (s0.1,x42.1,s0.2.2.1,false,false,x50))
      else
       bif (decide (0<s0.1)) then
        (ZF s0.2.2.2.2.2 (w64 (s0.1-1))).bind fun x51=>
        (ZF s0.2.2.2.2.2 x3.1).bind fun x52=>
        (e x51 x52).bind fun x53=>
        bif (decide (x53<0)) then
         (Zj s0.1 s0.2.1 x3.1 e s0.2.2.2.2.2).bind fun x54=>
         match x54 with
         | (.inl x54)=>
          bif (decide ((w64 (x54.1-s0.1))<(w64 (s0.2.1-x54.1)))) then
           bif (decide ((w64 (Int.tdiv (w64 (s0.2.1-s0.1)) 8))≤(w64 (x54.1-s0.1)))) then
            (rc s0.1 x54.1 s0.2.2.1 e x54.2).bind fun x55=>
            some (.inl ((w64 (x54.1+1)),s0.2.1,s0.2.2.1,true,true,x55))
           else
            (rc s0.1 x54.1 s0.2.2.1 e x54.2).bind fun x56=>
            some (.inl ((w64 (x54.1+1)),s0.2.1,s0.2.2.1,false,true,x56))
          else
           bif (decide ((w64 (Int.tdiv (w64 (s0.2.1-s0.1)) 8))≤(w64 (s0.2.1-x54.1)))) then
            (rc (w64 (x54.1+1)) s0.2.1 s0.2.2.1 e x54.2).bind fun x57=>
            some (.inl (s0.1,x54.1,s0.2.2.1,true,true,x57))
           else
            (rc (w64 (x54.1+1)) s0.2.1 s0.2.2.1 e x54.2).bind fun x58=>
            some (.inl (s0.1,x54.1,s0.2.2.1,false,true,x58))
         | (.inr x54)=>
          bif (decide ((w64 (x54.1-s0.1))<(w64 (s0.2.1-x54.1)))) then
           bif (decide ((w64 (Int.tdiv (w64 (s0.2.1-s0.1)) 8))≤(w64 (x54.1-s0.1)))) then
            (rc s0.1 x54.1 s0.2.2.1 e x54.2).bind fun x59=>
            some (.inl ((w64 (x54.1+1)),s0.2.1,s0.2.2.1,true,false,x59))
           else
            (rc s0.1 x54.1 s0.2.2.1 e x54.2).bind fun x60=>
            some (.inl ((w64 (x54.1+1)),s0.2.1,s0.2.2.1,false,false,x60))
          else
           bif (decide ((w64 (Int.tdiv (w64 (s0.2.1-s0.1)) 8))≤(w64 (s0.2.1-x54.1)))) then
            (rc (w64 (x54.1+1)) s0.2.1 s0.2.2.1 e x54.2).bind fun x61=>
            some (.inl (s0.1,x54.1,s0.2.2.1,true,false,x61))
           else
            (rc (w64 (x54.1+1)) s0.2.1 s0.2.2.1 e x54.2).bind fun x62=>
            some (.inl (s0.1,x54.1,s0.2.2.1,false,false,x62))
        else
         (Zv s0.1 s0.2.1 x3.1 e s0.2.2.2.2.2).bind fun x63=>
         some (.inl (x63.1,s0.2.1,s0.2.2.1,true,true,x63.2))
       else
        (Zj s0.1 s0.2.1 x3.1 e s0.2.2.2.2.2).bind fun x64=>
        match x64 with
        | (.inl x64)=>
         bif (decide ((w64 (x64.1-s0.1))<(w64 (s0.2.1-x64.1)))) then
          bif (decide ((w64 (Int.tdiv (w64 (s0.2.1-s0.1)) 8))≤(w64 (x64.1-s0.1)))) then
           (rc s0.1 x64.1 s0.2.2.1 e x64.2).bind fun x65=>
           some (.inl ((w64 (x64.1+1)),s0.2.1,s0.2.2.1,true,true,x65))
          else
           (rc s0.1 x64.1 s0.2.2.1 e x64.2).bind fun x66=>
           some (.inl ((w64 (x64.1+1)),s0.2.1,s0.2.2.1,false,true,x66))
         else
          bif (decide ((w64 (Int.tdiv (w64 (s0.2.1-s0.1)) 8))≤(w64 (s0.2.1-x64.1)))) then
           (rc (w64 (x64.1+1)) s0.2.1 s0.2.2.1 e x64.2).bind fun x67=>
           some (.inl (s0.1,x64.1,s0.2.2.1,true,true,x67))
          else
           (rc (w64 (x64.1+1)) s0.2.1 s0.2.2.1 e x64.2).bind fun x68=>
           some (.inl (s0.1,x64.1,s0.2.2.1,false,true,x68))
        | (.inr x64)=>
         bif (decide ((w64 (x64.1-s0.1))<(w64 (s0.2.1-x64.1)))) then
          bif (decide ((w64 (Int.tdiv (w64 (s0.2.1-s0.1)) 8))≤(w64 (x64.1-s0.1)))) then
           (rc s0.1 x64.1 s0.2.2.1 e x64.2).bind fun x69=>
           some (.inl ((w64 (x64.1+1)),s0.2.1,s0.2.2.1,true,false,x69))
          else
           (rc s0.1 x64.1 s0.2.2.1 e x64.2).bind fun x70=>
           some (.inl ((w64 (x64.1+1)),s0.2.1,s0.2.2.1,false,false,x70))
         else
          bif (decide ((w64 (Int.tdiv (w64 (s0.2.1-s0.1)) 8))≤(w64 (s0.2.1-x64.1)))) then
           (rc (w64 (x64.1+1)) s0.2.1 s0.2.2.1 e x64.2).bind fun x71=>
           some (.inl (s0.1,x64.1,s0.2.2.1,true,false,x71))
          else
           (rc (w64 (x64.1+1)) s0.2.1 s0.2.2.1 e x64.2).bind fun x72=>
           some (.inl (s0.1,x64.1,s0.2.2.1,false,false,x72))
  else
   bif (decide ((w64 (s0.2.1-s0.1))≤12)) then
    (ZM s0.1 s0.2.1 e s0.2.2.2.2.2).bind fun x73=>
    some (.inr x73)
   else
    bif (s0.2.2.1==0) then
     (ZY s0.1 s0.2.1 e s0.2.2.2.2.2).bind fun x74=>
     some (.inr x74)
    else
     (ZD s0.1 s0.2.1 e s0.2.2.2.2.2).bind fun x75=>
     bif (x75.2==2) then
      (ZC s0.1 s0.2.1 e s0.2.2.2.2.2).bind fun x76=>
      bif (decide (0<s0.1)) then
       (ZF x76 (w64 (s0.1-1))).bind fun x77=>
       (ZF x76 (w64 ((w64 (s0.2.1-1))-(w64 (x75.1-s0.1))))).bind fun x78=>
       (e x77 x78).bind fun x79=>
       bif (decide (x79<0)) then
        (Zj s0.1 s0.2.1 (w64 ((w64 (s0.2.1-1))-(w64 (x75.1-s0.1)))) e x76).bind fun x80=>
        match x80 with
        | (.inl x80)=>
         bif (decide ((w64 (x80.1-s0.1))<(w64 (s0.2.1-x80.1)))) then
          bif (decide ((w64 (Int.tdiv (w64 (s0.2.1-s0.1)) 8))≤(w64 (x80.1-s0.1)))) then
           (rc s0.1 x80.1 s0.2.2.1 e x80.2).bind fun x81=>
           some (.inl ((w64 (x80.1+1)),s0.2.1,s0.2.2.1,true,true,x81))
          else
           (rc s0.1 x80.1 s0.2.2.1 e x80.2).bind fun x82=>
           some (.inl ((w64 (x80.1+1)),s0.2.1,s0.2.2.1,false,true,x82))
         else
          bif (decide ((w64 (Int.tdiv (w64 (s0.2.1-s0.1)) 8))≤(w64 (s0.2.1-x80.1)))) then
           (rc (w64 (x80.1+1)) s0.2.1 s0.2.2.1 e x80.2).bind fun x83=>
           some (.inl (s0.1,x80.1,s0.2.2.1,true,true,x83))
          else
           (rc (w64 (x80.1+1)) s0.2.1 s0.2.2.1 e x80.2).bind fun x84=>
           some (.inl (s0.1,x80.1,s0.2.2.1,false,true,x84))
        | (.inr x80)=>
         bif (decide ((w64 (x80.1-s0.1))<(w64 (s0.2.1-x80.1)))) then
          bif (decide ((w64 (Int.tdiv (w64 (s0.2.1-s0.1)) 8))≤(w64 (x80.1-s0.1)))) then
           (rc s0.1 x80.1 s0.2.2.1 e x80.2).bind fun x85=>
           some (.inl ((w64 (x80.1+1)),s0.2.1,s0.2.2.1,true,false,x85))
          else
           (rc s0.1 x80.1 s0.2.2.1 e x80.2).bind fun x86=>
           some (.inl ((w64 (x80.1+1)),s0.2.1,s0.2.2.1,false,false,x86))
         else
          bif (decide ((w64 (Int.tdiv (w64 (s0.2.1-s0.1)) 8))≤(w64 (s0.2.1-x80.1)))) then
           (rc (w64 (x80.1+1)) s0.2.1 s0.2.2.1 e x80.2).bind fun x87=>
           some (.inl (s0.1,x80.1,s0.2.2.1,true,false,x87))
          else
           (rc (w64 (x80.1+1)) s0.2.1 s0.2.2.1 e x80.2).bind fun x88=>
           some (.inl (s0.1,x80.1,s0.2.2.1,false,false,x88))
       else
        (Zv s0.1 s0.2.1 (w64 ((w64 (s0.2.1-1))-(w64 (x75.1-s0.1)))) e x76).bind fun x89=>
        some (.inl (x89.1,s0.2.1,s0.2.2.1,true,false,x89.2))
      else
       (Zj s0.1 s0.2.1 (w64 ((w64 (s0.2.1-1))-(w64 (x75.1-s0.1)))) e x76).bind fun x90=>
       match x90 with
       | (.inl x90)=>
        bif (decide ((w64 (x90.1-s0.1))<(w64 (s0.2.1-x90.1)))) then
         bif (decide ((w64 (Int.tdiv (w64 (s0.2.1-s0.1)) 8))≤(w64 (x90.1-s0.1)))) then
          (rc s0.1 x90.1 s0.2.2.1 e x90.2).bind fun x91=>
          some (.inl ((w64 (x90.1+1)),s0.2.1,s0.2.2.1,true,true,x91))
         else
          (rc s0.1 x90.1 s0.2.2.1 e x90.2).bind fun x92=>
          some (.inl ((w64 (x90.1+1)),s0.2.1,s0.2.2.1,false,true,x92))
        else
         bif (decide ((w64 (Int.tdiv (w64 (s0.2.1-s0.1)) 8))≤(w64 (s0.2.1-x90.1)))) then
          (rc (w64 (x90.1+1)) s0.2.1 s0.2.2.1 e x90.2).bind fun x93=>
          some (.inl (s0.1,x90.1,s0.2.2.1,true,true,x93))
         else
          (rc (w64 (x90.1+1)) s0.2.1 s0.2.2.1 e x90.2).bind fun x94=>
          some (.inl (s0.1,x90.1,s0.2.2.1,false,true,x94))
       | (.inr x90)=>
        bif (decide ((w64 (x90.1-s0.1))<(w64 (s0.2.1-x90.1)))) then
         bif (decide ((w64 (Int.tdiv (w64 (s0.2.1-s0.1)) 8))≤(w64 (x90.1-s0.1)))) then
          (rc s0.1 x90.1 s0.2.2.1 e x90.2).bind fun x95=>
          some (.inl ((w64 (x90.1+1)),s0.2.1,s0.2.2.1,true,false,x95))
         else
          (rc s0.1 x90.1 s0.2.2.1 e x90.2).bind fun x96=>
          some (.inl ((w64 (x90.1+1)),s0.2.1,s0.2.2.1,false,false,x96))
        else
         bif (decide ((w64 (Int.tdiv (w64 (s0.2.1-s0.1)) 8))≤(w64 (s0.2.1-x90.1)))) then
          (rc (w64 (x90.1+1)) s0.2.1 s0.2.2.1 e x90.2).bind fun x97=>
          some (.inl (s0.1,x90.1,s0.2.2.1,true,false,x97))
         else
          (rc (w64 (x90.1+1)) s0.2.1 s0.2.2.1 e x90.2).bind fun x98=>
          some (.inl (s0.1,x90.1,s0.2.2.1,false,false,x98))
     else
      bif (decide (0<s0.1)) then
       (ZF s0.2.2.2.2.2 (w64 (s0.1-1))).bind fun x99=>
       (ZF s0.2.2.2.2.2 x75.1).bind fun x100=>
       (e x99 x100).bind fun x101=>
       bif (decide (x101<0)) then
        (Zj s0.1 s0.2.1 x75.1 e s0.2.2.2.2.2).bind fun x102=>
        match x102 with
        | (.inl x102)=>
         bif (decide ((w64 (x102.1-s0.1))<(w64 (s0.2.1-x102.1)))) then
          bif (decide ((w64 (Int.tdiv (w64 (s0.2.1-s0.1)) 8))≤(w64 (x102.1-s0.1)))) then
           (rc s0.1 x102.1 s0.2.2.1 e x102.2).bind fun x103=>
           some (.inl ((w64 (x102.1+1)),s0.2.1,s0.2.2.1,true,true,x103))
          else
           (rc s0.1 x102.1 s0.2.2.1 e x102.2).bind fun x104=>
           some (.inl ((w64 (x102.1+1)),s0.2.1,s0.2.2.1,false,true,x104))
         else
          bif (decide ((w64 (Int.tdiv (w64 (s0.2.1-s0.1)) 8))≤(w64 (s0.2.1-x102.1)))) then
           (rc (w64 (x102.1+1)) s0.2.1 s0.2.2.1 e x102.2).bind fun x105=>
           some (.inl (s0.1,x102.1,s0.2.2.1,true,true,x105))
          else
           (rc (w64 (x102.1+1)) s0.2.1 s0.2.2.1 e x102.2).bind fun x106=>
           some (.inl (s0.1,x102.1,s0.2.2.1,false,true,x106))
        | (.inr x102)=>
         bif (decide ((w64 (x102.1-s0.1))<(w64 (s0.2.1-x102.1)))) then
          bif (decide ((w64 (Int.tdiv (w64 (s0.2.1-s0.1)) 8))≤(w64 (x102.1-s0.1)))) then
           (rc s0.1 x102.1 s0.2.2.1 e x102.2).bind fun x107=>
           some (.inl ((w64 (x102.1+1)),s0.2.1,s0.2.2.1,true,false,x107))
          else
           (rc s0.1 x102.1 s0.2.2.1 e x102.2).bind fun x108=>
           some (.inl ((w64 (x102.1+1)),s0.2.1,s0.2.2.1,false,false,x108))
         else
          bif (decide ((w64 (Int.tdiv (w64 (s0.2.1-s0.1)) 8))≤(w64 (s0.2.1-x102.1)))) then
           (rc (w64 (x102.1+1)) s0.2.1 s0.2.2.1 e x102.2).bind fun x109=>
           some (.inl (s0.1,x102.1,s0.2.2.1,true,false,x109))
          else
           (rc (w64 (x102.1+1)) s0.2.1 s0.2.2.1 e x102.2).bind fun x110=>
           some (.inl (s0.1,x102.1,s0.2.2.1,false,false,x110))
       else
        (Zv s0.1 s0.2.1 x75.1 e s0.2.2.2.2.2).bind fun x111=>
        some (.inl (x111.1,s0.2.1,s0.2.2.1,true,false,x111.2))
      else
       (Zj s0.1 s0.2.1 x75.1 e s0.2.2.2.2.2).bind fun x112=>
       match x112 with
       | (.inl x112)=>
        bif (decide ((w64 (x112.1-s0.1))<(w64 (s0.2.1-x112.1)))) then
         bif (decide ((w64 (Int.tdiv (w64 (s0.2.1-s0.1)) 8))≤(w64 (x112.1-s0.1)))) then
          (rc s0.1 x112.1 s0.2.2.1 e x112.2).bind fun x113=>
          some (.inl ((w64 (x112.1+1)),s0.2.1,s0.2.2.1,true,true,x113))
         else
          (rc s0.1 x112.1 s0.2.2.1 e x112.2).bind fun x114=>
          some (.inl ((w64 (x112.1+1)),s0.2.1,s0.2.2.1,false,true,x114))
        else
         bif (decide ((w64 (Int.tdiv (w64 (s0.2.1-s0.1)) 8))≤(w64 (s0.2.1-x112.1)))) then
          (rc (w64 (x112.1+1)) s0.2.1 s0.2.2.1 e x112.2).bind fun x115=>
          some (.inl (s0.1,x112.1,s0.2.2.1,true,true,x115))
         else
          (rc (w64 (x112.1+1)) s0.2.1 s0.2.2.1 e x112.2).bind fun x116=>
          some (.inl (s0.1,x112.1,s0.2.2.1,false,true,x116))
       | (.inr x112)=>
        bif (decide ((w64 (x112.1-s0.1))<(w64 (s0.2.1-x112.1)))) then
         bif (decide ((w64 (Int.tdiv (w64 (s0.2.1-s0.1)) 8))≤(w64 (x112.1-s0.1)))) then
          (rc s0.1 x112.1 s0.2.2.1 e x112.2).bind fun x117=>
          some (.inl ((w64 (x112.1+1)),s0.2.1,s0.2.2.1,true,false,x117))
         else
          (rc s0.1 x112.1 s0.2.2.1 e x112.2).bind fun x118=>
          some (.inl ((w64 (x112.1+1)),s0.2.1,s0.2.2.1,false,false,x118))
        else
         bif (decide ((w64 (Int.tdiv (w64 (s0.2.1-s0.1)) 8))≤(w64 (s0.2.1-x112.1)))) then
          (rc (w64 (x112.1+1)) s0.2.1 s0.2.2.1 e x112.2).bind fun x119=>
          some (.inl (s0.1,x112.1,s0.2.2.1,true,false,x119))
         else
          (rc (w64 (x112.1+1)) s0.2.1 s0.2.2.1 e x112.2).bind fun x120=>
          some (.inl (s0.1,x112.1,s0.2.2.1,false,false,x120))
 else
  bif s0.2.2.2.2.1 then
   bif (decide ((w64 (s0.2.1-s0.1))≤12)) then
    (ZM s0.1 s0.2.1 e s0.2.2.2.2.2).bind fun x121=>
    some (.inr x121)
   else
    bif (s0.2.2.1==0) then
     (ZY s0.1 s0.2.1 e s0.2.2.2.2.2).bind fun x122=>
     some (.inr x122)
    else
     (Z2 s0.1 s0.2.1 e s0.2.2.2.2.2).bind fun x123=>
     (ZD s0.1 s0.2.1 e x123).bind fun x124=>
     bif (x124.2==2) then
      (ZC s0.1 s0.2.1 e x123).bind fun x125=>
      bif (decide (0<s0.1)) then
       (ZF x125 (w64 (s0.1-1))).bind fun x126=>
       (ZF x125 (w64 ((w64 (s0.2.1-1))-(w64 (x124.1-s0.1))))).bind fun x127=>
       (e x126 x127).bind fun x128=>
       bif (decide (x128<0)) then
        (Zj s0.1 s0.2.1 (w64 ((w64 (s0.2.1-1))-(w64 (x124.1-s0.1)))) e x125).bind fun x129=>
        match x129 with
        | (.inl x129)=>
         bif (decide ((w64 (x129.1-s0.1))<(w64 (s0.2.1-x129.1)))) then
          bif (decide ((w64 (Int.tdiv (w64 (s0.2.1-s0.1)) 8))≤(w64 (x129.1-s0.1)))) then
           (rc s0.1 x129.1 (w64 (s0.2.2.1-1)) e x129.2).bind fun x130=>
           some (.inl ((w64 (x129.1+1)),s0.2.1,(w64 (s0.2.2.1-1)),true,true,x130))
          else
           (rc s0.1 x129.1 (w64 (s0.2.2.1-1)) e x129.2).bind fun x131=>
           some (.inl ((w64 (x129.1+1)),s0.2.1,(w64 (s0.2.2.1-1)),false,true,x131))
         else
          bif (decide ((w64 (Int.tdiv (w64 (s0.2.1-s0.1)) 8))≤(w64 (s0.2.1-x129.1)))) then
           (rc (w64 (x129.1+1)) s0.2.1 (w64 (s0.2.2.1-1)) e x129.2).bind fun x132=>
           some (.inl (s0.1,x129.1,(w64 (s0.2.2.1-1)),true,true,x132))
          else
           (rc (w64 (x129.1+1)) s0.2.1 (w64 (s0.2.2.1-1)) e x129.2).bind fun x133=>
           some (.inl (s0.1,x129.1,(w64 (s0.2.2.1-1)),false,true,x133))
        | (.inr x129)=>
         bif (decide ((w64 (x129.1-s0.1))<(w64 (s0.2.1-x129.1)))) then
          bif (decide ((w64 (Int.tdiv (w64 (s0.2.1-s0.1)) 8))≤(w64 (x129.1-s0.1)))) then
           (rc s0.1 x129.1 (w64 (s0.2.2.1-1)) e x129.2).bind fun x134=>
           some (.inl ((w64 (x129.1+1)),s0.2.1,(w64 (s0.2.2.1-1)),true,false,x134))
          else
           (rc s0.1 x129.1 (w64 (s0.2.2.1-1)) e x129.2).bind fun x135=>
           some (.inl ((w64 (x129.1+1)),s0.2.1,(w64 (s0.2.2.1-1)),false,false,x135))
         else
          bif (decide ((w64 (Int.tdiv (w64 (s0.2.1-s0.1)) 8))≤(w64 (s0.2.1-x129.1)))) then
           (rc (w64 (x129.1+1)) s0.2.1 (w64 (s0.2.2.1-1)) e x129.2).bind fun x136=>
           some (.inl (s0.1,x129.1,(w64 (s0.2.2.1-1)),true,false,x136))
          else
           (rc (w64 (x129.1+1)) s0.2.1 (w64 (s0.2.2.1-1)) e x129.2).bind fun x137=>
           some (.inl (s0.1,x129.1,(w64 (s0.2.2.1-1)),false,false,x137))
       else
        (Zv s0.1 s0.2.1 (w64 ((w64 (s0.2.1-1))-(w64 (x124.1-s0.1)))) e x125).bind fun x138=>
        some (.inl (x138.1,s0.2.1,(w64 (s0.2.2.1-1)),false,true,x138.2))
      else
       (Zj s0.1 s0.2.1 (w64 ((w64 (s0.2.1-1))-(w64 (x124.1-s0.1)))) e x125).bind fun x139=>
       match x139 with
       | (.inl x139)=>
        bif (decide ((w64 (x139.1-s0.1))<(w64 (s0.2.1-x139.1)))) then
         bif (decide ((w64 (Int.tdiv (w64 (s0.2.1-s0.1)) 8))≤(w64 (x139.1-s0.1)))) then
          (rc s0.1 x139.1 (w64 (s0.2.2.1-1)) e x139.2).bind fun x140=>
          some (.inl ((w64 (x139.1+1)),s0.2.1,(w64 (s0.2.2.1-1)),true,true,x140))
         else
          (rc s0.1 x139.1 (w64 (s0.2.2.1-1)) e x139.2).bind fun x141=>
          some (.inl ((w64 (x139.1+1)),s0.2.1,(w64 (s0.2.2.1-1)),false,true,x141))
        else
         bif (decide ((w64 (Int.tdiv (w64 (s0.2.1-s0.1)) 8))≤(w64 (s0.2.1-x139.1)))) then
          (rc (w64 (x139.1+1)) s0.2.1 (w64 (s0.2.2.1-1)) e x139.2).bind fun x142=>
          some (.inl (s0.1,x139.1,(w64 (s0.2.2.1-1)),true,true,x142))
         else
          (rc (w64 (x139.1+1)) s0.2.1 (w64 (s0.2.2.1-1)) e x139.2).bind fun x143=>
          some (.inl (s0.1,x139.1,(w64 (s0.2.2.1-1)),false,true,x143))
       | (.inr x139)=>
        bif (decide ((w64 (x139.1-s0.1))<(w64 (s0.2.1-x139.1)))) then
         bif (decide ((w64 (Int.tdiv (w64 (s0.2.1-s0.1)) 8))≤(w64 (x139.1-s0.1)))) then
          (rc s0.1 x139.1 (w64 (s0.2.2.1-1)) e x139.2).bind fun x144=>
          some (.inl ((w64 (x139.1+1)),s0.2.1,(w64 (s0.2.2.1-1)),true,false,x144))
         else
          (rc s0.1 x139.1 (w64 (s0.2.2.1-1)) e x139.2).bind fun x145=>
          some (.inl ((w64 (x139.1+1)),s0.2.1,(w64 (s0.2.2.1-1)),false,false,x145))
        else
         bif (decide ((w64 (Int.tdiv (w64 (s0.2.1-s0.1)) 8))≤(w64 (s0.2.1-x139.1)))) then
          (rc (w64 (x139.1+1)) s0.2.1 (w64 (s0.2.2.1-1)) e x139.2).bind fun x146=>
          some (.inl (s0.1,x139.1,(w64 (s0.2.2.1-1)),true,false,x146))
         else
          (rc (w64 (x139.1+1)) s0.2.1 (w64 (s0.2.2.1-1)) e x139.2).bind fun x147=>
          some (.inl (s0.1,x139.1,(w64 (s0.2.2.1-1)),false,false,x147))
     else
      bif (decide (0<s0.1)) then
       (ZF x123 (w64 (s0.1-1))).bind fun x148=>
       (ZF x123 x124.1).bind fun x149=>
       (e x148 x149).bind fun x150=>
       bif (decide (x150<0)) then
        (Zj s0.1 s0.2.1 x124.1 e x123).bind fun x151=>
        match x151 with
        | (.inl x151)=>
         bif (decide ((w64 (x151.1-s0.1))<(w64 (s0.2.1-x151.1)))) then
          bif (decide ((w64 (Int.tdiv (w64 (s0.2.1-s0.1)) 8))≤(w64 (x151.1-s0.1)))) then
           (rc s0.1 x151.1 (w64 (s0.2.2.1-1)) e x151.2).bind fun x152=>
           some (.inl ((w64 (x151.1+1)),s0.2.1,(w64 (s0.2.2.1-1)),true,true,x152))
          else
           (rc s0.1 x151.1 (w64 (s0.2.2.1-1)) e x151.2).bind fun x153=>
           some (.inl ((w64 (x151.1+1)),s0.2.1,(w64 (s0.2.2.1-1)),false,true,x153))
         else
          bif (decide ((w64 (Int.tdiv (w64 (s0.2.1-s0.1)) 8))≤(w64 (s0.2.1-x151.1)))) then
           (rc (w64 (x151.1+1)) s0.2.1 (w64 (s0.2.2.1-1)) e x151.2).bind fun x154=>
           some (.inl (s0.1,x151.1,(w64 (s0.2.2.1-1)),true,true,x154))
          else
           (rc (w64 (x151.1+1)) s0.2.1 (w64 (s0.2.2.1-1)) e x151.2).bind fun x155=>
           some (.inl (s0.1,x151.1,(w64 (s0.2.2.1-1)),false,true,x155))
        | (.inr x151)=>
         bif (decide ((w64 (x151.1-s0.1))<(w64 (s0.2.1-x151.1)))) then
          bif (decide ((w64 (Int.tdiv (w64 (s0.2.1-s0.1)) 8))≤(w64 (x151.1-s0.1)))) then
           (rc s0.1 x151.1 (w64 (s0.2.2.1-1)) e x151.2).bind fun x156=>
           some (.inl ((w64 (x151.1+1)),s0.2.1,(w64 (s0.2.2.1-1)),true,false,x156))
          else
           (rc s0.1 x151.1 (w64 (s0.2.2.1-1)) e x151.2).bind fun x157=>
           some (.inl ((w64 (x151.1+1)),s0.2.1,(w64 (s0.2.2.1-1)),false,false,x157))
         else
          bif (decide ((w64 (Int.tdiv (w64 (s0.2.1-s0.1)) 8))≤(w64 (s0.2.1-x151.1)))) then
           (rc (w64 (x151.1+1)) s0.2.1 (w64 (s0.2.2.1-1)) e x151.2).bind fun x158=>
           some (.inl (s0.1,x151.1,(w64 (s0.2.2.1-1)),true,false,x158))
          else
           (rc (w64 (x151.1+1)) s0.2.1 (w64 (s0.2.2.1-1)) e x151.2).bind fun x159=>
           some (.inl (s0.1,x151.1,(w64 (s0.2.2.1-1)),false,false,x159))
       else
        (Zv s0.1 s0.2.1 x124.1 e x123).bind fun x160=>
        some (.inl (x160.1,s0.2.1,(w64 (s0.2.2.1-1)),false,true,x160.2))
      else
       (Zj s0.1 s0.2.1 x124.1 e x123).bind fun x161=>
       match x161 with
       | (.inl x161)=>
        bif (decide ((w64 (x161.1-s0.1))<(w64 (s0.2.1-x161.1)))) then
         bif (decide ((w64 (Int.tdiv (w64 (s0.2.1-s0.1)) 8))≤(w64 (x161.1-s0.1)))) then
          (rc s0.1 x161.1 (w64 (s0.2.2.1-1)) e x161.2).bind fun x162=>
          some (.inl ((w64 (x161.1+1)),s0.2.1,(w64 (s0.2.2.1-1)),true,true,x162))
         else
          (rc s0.1 x161.1 (w64 (s0.2.2.1-1)) e x161.2).bind fun x163=>
          some (.inl ((w64 (x161.1+1)),s0.2.1,(w64 (s0.2.2.1-1)),false,true,x163))
        else
         bif (decide ((w64 (Int.tdiv (w64 (s0.2.1-s0.1)) 8))≤(w64 (s0.2.1-x161.1)))) then
          (rc (w64 (x161.1+1)) s0.2.1 (w64 (s0.2.2.1-1)) e x161.2).bind fun x164=>
          some (.inl (s0.1,x161.1,(w64 (s0.2.2.1-1)),true,true,x164))
         else
          (rc (w64 (x161.1+1)) s0.2.1 (w64 (s0.2.2.1-1)) e x161.2).bind fun x165=>
          some (.inl (s0.1,x161.1,(w64 (s0.2.2.1-1)),false,true,x165))
       | (.inr x161)=>
        bif (decide ((w64 (x161.1-s0.1))<(w64 (s0.2.1-x161.1)))) then
         bif (decide ((w64 (Int.tdiv (w64 (s0.2.1-s0.1)) 8))≤(w64 (x161.1-s0.1)))) then
          (rc s0.1 x161.1 (w64 (s0.2.2.1-1)) e x161.2).bind fun x166=>
          some (.inl ((w64 (x161.1+1)),s0.2.1,(w64 (s0.2.2.1-1)),true,false,x166))
         else
          (rc s0.1 x161.1 (w64 (s0.2.2.1-1)) e x161.2).bind fun x167=>
          some (.inl ((w64 (x161.1+1)),s0.2.1,(w64 (s0.2.2.1-1)),false,false,x167))
        else
         bif (decide ((w64 (Int.tdiv (w64 (s0.2.1-s0.1)) 8))≤(w64 (s0.2.1-x161.1)))) then
          (rc (w64 (x161.1+1)) s0.2.1 (w64 (s0.2.2.1-1)) e x161.2).bind fun x168=>
          some (.inl (s0.1,x161.1,(w64 (s0.2.2.1-1)),true,false,x168))
         else
          (rc (w64 (x161.1+1)) s0.2.1 (w64 (s0.2.2.1-1)) e x161.2).bind fun x169=>
          some (.inl (s0.1,x161.1,(w64 (s0.2.2.1-1)),false,false,x169))
  else
   bif (decide ((w64 (s0.2.1-s0.1))≤12)) then
    (ZM s0.1 s0.2.1 e s0.2.2.2.2.2).bind fun x170=>
    some (.inr x170)
   else
    bif (s0.2.2.1==0) then
     (ZY s0.1 s0.2.1 e s0.2.2.2.2.2).bind fun x171=>
     some (.inr x171)
    else
     (Z2 s0.1 s0.2.1 e s0.2.2.2.2.2).bind fun x172=>
     (ZD s0.1 s0.2.1 e x172).bind fun x173=>
     bif (x173.2==2) then
      (ZC s0.1 s0.2.1 e x172).bind fun x174=>
      bif (decide (0<s0.1)) then
       (ZF x174 (w64 (s0.1-1))).bind fun x175=>
       (ZF x174 (w64 ((w64 (s0.2.1-1))-(w64 (x173.1-s0.1))))).bind fun x176=>
       (e x175 x176).bind fun x177=>
       bif (decide (x177<0)) then
        (Zj s0.1 s0.2.1 (w64 ((w64 (s0.2.1-1))-(w64 (x173.1-s0.1)))) e x174).bind fun x178=>
        match x178 with
        | (.inl x178)=>
         bif (decide ((w64 (x178.1-s0.1))<(w64 (s0.2.1-x178.1)))) then
          bif (decide ((w64 (Int.tdiv (w64 (s0.2.1-s0.1)) 8))≤(w64 (x178.1-s0.1)))) then
           (rc s0.1 x178.1 (w64 (s0.2.2.1-1)) e x178.2).bind fun x179=>
           some (.inl ((w64 (x178.1+1)),s0.2.1,(w64 (s0.2.2.1-1)),true,true,x179))
          else
           (rc s0.1 x178.1 (w64 (s0.2.2.1-1)) e x178.2).bind fun x180=>
           some (.inl ((w64 (x178.1+1)),s0.2.1,(w64 (s0.2.2.1-1)),false,true,x180))
         else
          bif (decide ((w64 (Int.tdiv (w64 (s0.2.1-s0.1)) 8))≤(w64 (s0.2.1-x178.1)))) then
           (rc (w64 (x178.1+1)) s0.2.1 (w64 (s0.2.2.1-1)) e x178.2).bind fun x181=>
           some (.inl (s0.1,x178.1,(w64 (s0.2.2.1-1)),true,true,x181))
          else
           (rc (w64 (x178.1+1)) s0.2.1 (w64 (s0.2.2.1-1)) e x178.2).bind fun x182=>
           some (.inl (s0.1,x178.1,(w64 (s0.2.2.1-1)),false,true,x182))
        | (.inr x178)=>
         bif (decide ((w64 (x178.1-s0.1))<(w64 (s0.2.1-x178.1)))) then
          bif (decide ((w64 (Int.tdiv (w64 (s0.2.1-s0.1)) 8))≤(w64 (x178.1-s0.1)))) then
           (rc s0.1 x178.1 (w64 (s0.2.2.1-1)) e x178.2).bind fun x183=>
           some (.inl ((w64 (x178.1+1)),s0.2.1,(w64 (s0.2.2.1-1)),true,false,x183))
          else
           (rc s0.1 x178.1 (w64 (s0.2.2.1-1)) e x178.2).bind fun x184=>
           some (.inl ((w64 (x178.1+1)),s0.2.1,(w64 (s0.2.2.1-1)),false,false,x184))
         else
          bif (decide ((w64 (Int.tdiv (w64 (s0.2.1-s0.1)) 8))≤(w64 (s0.2.1-x178.1)))) then
           (rc (w64 (x178.1+1)) s0.2.1 (w64 (s0.2.2.1-1)) e x178.2).bind fun x185=>
           some (.inl (s0.1,x178.1,(w64 (s0.2.2.1-1)),true,false,x185))
          else
           (rc (w64 (x178.1+1)) s0.2.1 (w64 (s0.2.2.1-1)) e x178.2).bind fun x186=>
           some (.inl (s0.1,x178.1,(w64 (s0.2.2.1-1)),false,false,x186))
       else
        (Zv s0.1 s0.2.1 (w64 ((w64 (s0.2.1-1))-(w64 (x173.1-s0.1)))) e x174).bind fun x187=>
        some (.inl (x187.1,s0.2.1,(w64 (s0.2.2.1-1)),false,false,x187.2))
      else
       (Zj s0.1 s0.2.1 (w64 ((w64 (s0.2.1-1))-(w64 (x173.1-s0.1)))) e x174).bind fun x188=>
       match x188 with
       | (.inl x188)=>
        bif (decide ((w64 (x188.1-s0.1))<(w64 (s0.2.1-x188.1)))) then
         bif (decide ((w64 (Int.tdiv (w64 (s0.2.1-s0.1)) 8))≤(w64 (x188.1-s0.1)))) then
          (rc s0.1 x188.1 (w64 (s0.2.2.1-1)) e x188.2).bind fun x189=>
          some (.inl ((w64 (x188.1+1)),s0.2.1,(w64 (s0.2.2.1-1)),true,true,x189))
         else
          (rc s0.1 x188.1 (w64 (s0.2.2.1-1)) e x188.2).bind fun x190=>
          some (.inl ((w64 (x188.1+1)),s0.2.1,(w64 (s0.2.2.1-1)),false,true,x190))
        else
         bif (decide ((w64 (Int.tdiv (w64 (s0.2.1-s0.1)) 8))≤(w64 (s0.2.1-x188.1)))) then
          (rc (w64 (x188.1+1)) s0.2.1 (w64 (s0.2.2.1-1)) e x188.2).bind fun x191=>
          some (.inl (s0.1,x188.1,(w64 (s0.2.2.1-1)),true,true,x191))
         else
          (rc (w64 (x188.1+1)) s0.2.1 (w64 (s0.2.2.1-1)) e x188.2).bind fun x192=>
          some (.inl (s0.1,x188.1,(w64 (s0.2.2.1-1)),false,true,x192))
       | (.inr x188)=>
        bif (decide ((w64 (x188.1-s0.1))<(w64 (s0.2.1-x188.1)))) then
         bif (decide ((w64 (Int.tdiv (w64 (s0.2.1-s0.1)) 8))≤(w64 (x188.1-s0.1)))) then
          (rc s0.1 x188.1 (w64 (s0.2.2.1-1)) e x188.2).bind fun x193=>
          some (.inl ((w64 (x188.1+1)),s0.2.1,(w64 (s0.2.2.1-1)),true,false,x193))
         else
          (rc s0.1 x188.1 (w64 (s0.2.2.1-1)) e x188.2).bind fun x194=>
          some (.inl ((w64 (x188.1+1)),s0.2.1,(w64 (s0.2.2.1-1)),false,false,x194))
        else
         bif (decide ((w64 (Int.tdiv (w64 (s0.2.1-s0.1)) 8))≤(w64 (s0.2.1-x188.1)))) then
          (rc (w64 (x188.1+1)) s0.2.1 (w64 (s0.2.2.1-1)) e x188.2).bind fun x195=>
          some (.inl (s0.1,x188.1,(w64 (s0.2.2.1-1)),true,false,x195))
         else
          (rc (w64 (x188.1+1)) s0.2.1 (w64 (s0.2.2.1-1)) e x188.2).bind fun x196=>
          some (.inl (s0.1,x188.1,(w64 (s0.2.2.1-1)),false,false,x196))
     else
      bif (decide (0<s0.1)) then
       (ZF x172 (w64 (s0.1-1))).bind fun x197=>
       (ZF x172 x173.1).bind fun x198=>
       (e x197 x198).bind fun x199=>
       bif (decide (x199<0)) then
        (Zj s0.1 s0.2.1 x173.1 e x172).bind fun x200=>
        match x200 with
        | (.inl x200)=>
         bif (decide ((w64 (x200.1-s0.1))<(w64 (s0.2.1-x200.1)))) then
          bif (decide ((w64 (Int.tdiv (w64 (s0.2.1-s0.1)) 8))≤(w64 (x200.1-s0.1)))) then
           (rc s0.1 x200.1 (w64 (s0.2.2.1-1)) e x200.2).bind fun x201=>
           some (.inl ((w64 (x200.1+1)),s0.2.1,(w64 (s0.2.2.1-1)),true,true,x201))
          else
           (rc s0.1 x200.1 (w64 (s0.2.2.1-1)) e x200.2).bind fun x202=>
           some (.inl ((w64 (x200.1+1)),s0.2.1,(w64 (s0.2.2.1-1)),false,true,x202))
         else
          bif (decide ((w64 (Int.tdiv (w64 (s0.2.1-s0.1)) 8))≤(w64 (s0.2.1-x200.1)))) then
           (rc (w64 (x200.1+1)) s0.2.1 (w64 (s0.2.2.1-1)) e x200.2).bind fun x203=>
           some (.inl (s0.1,x200.1,(w64 (s0.2.2.1-1)),true,true,x203))
          else
           (rc (w64 (x200.1+1)) s0.2.1 (w64 (s0.2.2.1-1)) e x200.2).bind fun x204=>
           some (.inl (s0.1,x200.1,(w64 (s0.2.2.1-1)),false,true,x204))
        | (.inr x200)=>
         bif (decide ((w64 (x200.1-s0.1))<(w64 (s0.2.1-x200.1)))) then
          bif (decide ((w64 (Int.tdiv (w64 (s0.2.1-s0.1)) 8))≤(w64 (x200.1-s0.1)))) then
           (rc s0.1 x200.1 (w64 (s0.2.2.1-1)) e x200.2).bind fun x205=>
           some (.inl ((w64 (x200.1+1)),s0.2.1,(w64 (s0.2.2.1-1)),true,false,x205))
          else
           (rc s0.1 x200.1 (w64 (s0.2.2.1-1)) e x200.2).bind fun x206=>
           some (.inl ((w64 (x200.1+1)),s0.2.1,(w64 (s0.2.2.1-1)),false,false,x206))
         else
          bif (decide ((w64 (Int.tdiv (w64 (s0.2.1-s0.1)) 8))≤(w64 (s0.2.1-x200.1)))) then
           (rc (w64 (x200.1+1)) s0.2.1 (w64 (s0.2.2.1-1)) e x200.2).bind fun x207=>
           some (.inl (s0.1,x200.1,(w64 (s0.2.2.1-1)),true,false,x207))
          else
           (rc (w64 (x200.1+1)) s0.2.1 (w64 (s0.2.2.1-1)) e x200.2).bind fun x208=>
           some (.inl (s0.1,x200.1,(w64 (s0.2.2.1-1)),false,false,x208))
       else
        (Zv s0.1 s0.2.1 x173.1 e x172).bind fun x209=>
        some (.inl (x209.1,s0.2.1,(w64 (s0.2.2.1-1)),false,false,x209.2))
      else
       (Zj s0.1 s0.2.1 x173.1 e x172).bind fun x210=>
       match x210 with
       | (.inl x210)=>
        bif (decide ((w64 (x210.1-s0.1))<(w64 (s0.2.1-x210.1)))) then
         bif (decide ((w64 (Int.tdiv (w64 (s0.2.1-s0.1)) 8))≤(w64 (x210.1-s0.1)))) then
          (rc s0.1 x210.1 (w64 (s0.2.2.1-1)) e x210.2).bind fun x211=>
          some (.inl ((w64 (x210.1+1)),s0.2.1,(w64 (s0.2.2.1-1)),true,true,x211))
         else
          (rc s0.1 x210.1 (w64 (s0.2.2.1-1)) e x210.2).bind fun x212=>
          some (.inl ((w64 (x210.1+1)),s0.2.1,(w64 (s0.2.2.1-1)),false,true,x212))
        else
         bif (decide ((w64 (Int.tdiv (w64 (s0.2.1-s0.1)) 8))≤(w64 (s0.2.1-x210.1)))) then
          (rc (w64 (x210.1+1)) s0.2.1 (w64 (s0.2.2.1-1)) e x210.2).bind fun x213=>
          some (.inl (s0.1,x210.1,(w64 (s0.2.2.1-1)),true,true,x213))
         else
          (rc (w64 (x210.1+1)) s0.2.1 (w64 (s0.2.2.1-1)) e x210.2).bind fun x214=>
          some (.inl (s0.1,x210.1,(w64 (s0.2.2.1-1)),false,true,x214))
       | (.inr x210)=>
        bif (decide ((w64 (x210.1-s0.1))<(w64 (s0.2.1-x210.1)))) then
         bif (decide ((w64 (Int.tdiv (w64 (s0.2.1-s0.1)) 8))≤(w64 (x210.1-s0.1)))) then
          (rc s0.1 x210.1 (w64 (s0.2.2.1-1)) e x210.2).bind fun x215=>
          some (.inl ((w64 (x210.1+1)),s0.2.1,(w64 (s0.2.2.1-1)),true,false,x215))
         else
          (rc s0.1 x210.1 (w64 (s0.2.2.1-1)) e x210.2).bind fun x216=>
          some (.inl ((w64 (x210.1+1)),s0.2.1,(w64 (s0.2.2.1-1)),false,false,x216))
        else
         bif (decide ((w64 (Int.tdiv (w64 (s0.2.1-s0.1)) 8))≤(w64 (s0.2.1-x210.1)))) then
          (rc (w64 (x210.1+1)) s0.2.1 (w64 (s0.2.2.1-1)) e x210.2).bind fun x217=>
          some (.inl (s0.1,x210.1,(w64 (s0.2.2.1-1)),true,false,x217))
         else
          (rc (w64 (x210.1+1)) s0.2.1 (w64 (s0.2.2.1-1)) e x210.2).bind fun x218=>
          some (.inl (s0.1,x210.1,(w64 (s0.2.2.1-1)),false,false,x218))
noncomputable def Zaf (rc:Int→Int→Int→(Int→Int→Option Int)→(List Int)→Option (List Int)) (b:Int) (c:Int) (d:Int) (e:(Int→Int→Option Int)) (m0_0:(List Int)):Option (List Int):=
 (lp (ZH e rc) (b,c,d,true,true,m0_0)).bind fun r219=>
 some r219
noncomputable def ZP:Nat→Int→Int→Int→(Int→Int→Option Int)→(List Int)→Option (List Int)
 | 0=>fun _ _ _ _ _=>none
 | n+1=>Zaf (ZP n)
noncomputable def ZcF (b:Int) (c:Int) (d:Int) (e:(Int→Int→Option Int)) (m0_0:(List Int)):Option (List Int):=ZqL fun n=>ZP n b c d e m0_0
noncomputable def Zau (b:(Int→Int→Option Int)) (m0_0:(List Int)):Option (List Int):=
 (Zdb (IntKind.u64.wrap (m0_0.length:Int))).bind fun x0=>
 (ZcF 0 (m0_0.length:Int) x0 b m0_0).bind fun x1=>
 some x1
noncomputable def Zcu (a:Zt) (b:Int) (s1:Int×(List Int)):Option ((Int×(List Int))⊕(List Int)):=
 bif (decide (s1.1<(a.futures.length:Int))) then
  (ZF a.futures s1.1).bind fun x2=>
  bif (x2.user==b) then
   bif (Nat.ble (List.length s1.2+1) lim) then
    some (.inl ((w64 (s1.1+1)),(s1.2++[s1.1])))
   else
    none
  else
   some (.inl ((w64 (s1.1+1)),s1.2))
 else
  some (.inr s1.2)
noncomputable def Zcm (a:Zt) (b:Int):Option (List Int):=
 (Zd5 a).bind fun x0=>
 bif (x0 != 0) then
  some ([]:List Int)
 else
  (lp (Zcu a b) (0,([]:(List Int)))).bind fun r3=>
  (Zau (fun z0 z1=>Zl z0 z1 a.futures) r3).bind fun x4=>
  some x4
noncomputable def Zei (a:Zt) (b:Int) (s1:Int×(List Int)):Option ((Int×(List Int))⊕(List Int)):=
 bif (decide (s1.1<(a.edges.length:Int))) then
  (ZF a.edges s1.1).bind fun x2=>
  bif (x2.dst==b) then
   bif (Nat.ble (List.length s1.2+1) lim) then
    some (.inl ((w64 (s1.1+1)),(s1.2++[x2.src])))
   else
    none
  else
   some (.inl ((w64 (s1.1+1)),s1.2))
 else
  some (.inr s1.2)
noncomputable def Zej (a:Zt) (x4:(List Int)) (s5:Int×(List Int)):Option ((Int×(List Int))⊕(List Int)):=
 bif (decide (s5.1<(x4.length:Int))) then
  (ZF x4 s5.1).bind fun x6=>
  (ZF a.futures x6).bind fun x7=>
  bif (Nat.ble (List.length s5.2+1) lim) then
   some (.inl ((w64 (s5.1+1)),(s5.2++[x7.maker])))
  else
   none
 else
  some (.inr s5.2)
noncomputable def ZdD (a:Zt) (b:Int):Option (List Int):=
 (Zd5 a).bind fun x0=>
 bif (x0 != 0) then
  some ([]:List Int)
 else
  (lp (Zei a b) (0,([]:(List Int)))).bind fun r3=>
  (Zcm a b).bind fun x4=>
  (lp (Zej a x4) (0,r3)).bind fun r8=>
  some r8
noncomputable def Zb2 (a:Int) (s0:Int×Int):Option ((Int×Int)⊕(Int⊕Unit)):=
 bif (decide (s0.2<40)) then
  bif (s0.1==a) then
   some (.inr (.inl s0.2))
  else
   some (.inl ((w64 (2*s0.1)),(w64 (s0.2+1))))
 else
  some (.inr (.inr ()))
noncomputable def Zfb (a:Int):Option (Int×Bool):=
 (lp (Zb2 a) (1,0)).bind fun r1=>
 match r1 with
 | (.inl r1)=>
  some (r1,true)
 | (.inr r1)=>
  some (0,false)
noncomputable def ZeF (a:Zt):Option Bool:=
 (Zfb a.period).bind fun x0=>
 bif x0.2 then
  bif (decide (a.period≤4096)) then
   bif (decide (1≤a.deadline)) then
    bif (decide (a.deadline≤a.period)) then
     some true
    else
     some false
   else
    some false
  else
   some false
 else
  some false
noncomputable def ZcP (a:Zt) (s0:Int):Option (Int⊕(Unit⊕Unit)):=
 bif (decide (s0<(a.parts.length:Int))) then
  (ZF a.parts s0).bind fun x1=>
  bif (decide (x1.op<0)) then
   some (.inr (.inl ()))
  else
   bif (decide (5<x1.op)) then
    some (.inr (.inl ()))
   else
    bif (decide (x1.arg<0)) then
     some (.inr (.inl ()))
    else
     bif (decide (2147483647<x1.arg)) then
      some (.inr (.inl ()))
     else
      bif (decide (x1.work<1)) then
       some (.inr (.inl ()))
      else
       bif (decide (100<x1.work)) then
        some (.inr (.inl ()))
       else
        some (.inl (w64 (s0+1)))
 else
  some (.inr (.inr ()))
noncomputable def Zeh (a:Zt):Option Bool:=
 (lp (ZcP a) 0).bind fun r2=>
 match r2 with
 | (.inl r2)=>
  some false
 | (.inr r2)=>
  some true
noncomputable def ZcL (a:Zt) (b:Int):Option Bool:=
 bif (decide (0≤b)) then
  bif (decide (b<(a.parts.length:Int))) then
   some true
  else
   some false
 else
  some false
noncomputable def ZcQ (a:Zt) (s0:Int) (x1:ZL) (s4:Int):Option (Int⊕(Unit⊕Unit)):=
 bif (decide (s4<s0)) then
  (ZF a.edges s4).bind fun x5=>
  bif (x5.src==x1.src) then
   bif (x5.dst==x1.dst) then
    some (.inr (.inl ()))
   else
    some (.inl (w64 (s4+1)))
  else
   some (.inl (w64 (s4+1)))
 else
  some (.inr (.inr ()))
noncomputable def ZcS (a:Zt) (s0:Int):Option (Int⊕(Unit⊕Unit)):=
 bif (decide (s0<(a.edges.length:Int))) then
  (ZF a.edges s0).bind fun x1=>
  (ZcL a x1.src).bind fun x2=>
  bif x2 then
   (ZcL a x1.dst).bind fun x3=>
   bif x3 then
    bif (x1.src==x1.dst) then
     some (.inr (.inl ()))
    else
     (lp (ZcQ a s0 x1) 0).bind fun r6=>
     match r6 with
     | (.inl r6)=>
      some (.inr (.inl ()))
     | (.inr r6)=>
      some (.inl (w64 (s0+1)))
   else
    some (.inr (.inl ()))
  else
   some (.inr (.inl ()))
 else
  some (.inr (.inr ()))
noncomputable def Zef (a:Zt):Option Bool:=
 (lp (ZcS a) 0).bind fun r7=>
 match r7 with
 | (.inl r7)=>
  some false
 | (.inr r7)=>
  some true
noncomputable def Zcg (a:Zt) (s0:Int) (x1:Zn) (s5:Int):Option (Int⊕(Unit⊕Unit)):=
 bif (decide (s5<s0)) then
  (ZF a.futures s5).bind fun x6=>
  bif (x6.user==x1.user) then
   bif (x6.pos==x1.pos) then
    some (.inr (.inl ()))
   else
    some (.inl (w64 (s5+1)))
  else
   some (.inl (w64 (s5+1)))
 else
  some (.inr (.inr ()))
noncomputable def Zch (a:Zt) (s0:Int):Option (Int⊕(Unit⊕Unit)):=
 bif (decide (s0<(a.futures.length:Int))) then
  (ZF a.futures s0).bind fun x1=>
  (ZcL a x1.maker).bind fun x2=>
  bif x2 then
   (ZcL a x1.user).bind fun x3=>
   bif x3 then
    bif (x1.maker==x1.user) then
     some (.inr (.inl ()))
    else
     bif (decide (x1.pos<1)) then
      some (.inr (.inl ()))
     else
      (ZF a.parts x1.user).bind fun x4=>
      bif (decide (x4.work≤x1.pos)) then
       some (.inr (.inl ()))
      else
       (lp (Zcg a s0 x1) 0).bind fun r7=>
       match r7 with
       | (.inl r7)=>
        some (.inr (.inl ()))
       | (.inr r7)=>
        some (.inl (w64 (s0+1)))
   else
    some (.inr (.inl ()))
  else
   some (.inr (.inl ()))
 else
  some (.inr (.inr ()))
noncomputable def ZdI (a:Zt):Option Bool:=
 (lp (Zch a) 0).bind fun r8=>
 match r8 with
 | (.inl r8)=>
  some false
 | (.inr r8)=>
  some true
noncomputable def Zdx (a:Zt) (b:(List Int)) (s0:Int):Option (Int⊕(Unit⊕Unit)):=
 bif (decide (s0<(b.length:Int))) then
  (ZF b s0).bind fun x1=>
  (ZcL a x1).bind fun x2=>
  bif x2 then
   bif (decide (0<s0)) then
    (ZF b (w64 (s0-1))).bind fun x3=>
    bif (decide (x1≤x3)) then
     some (.inr (.inl ()))
    else
     some (.inl (w64 (s0+1)))
   else
    some (.inl (w64 (s0+1)))
  else
   some (.inr (.inl ()))
 else
  some (.inr (.inr ()))
noncomputable def Zer (a:Zt) (b:(List Int)):Option Bool:=
 (lp (Zdx a b) 0).bind fun r4=>
 match r4 with
 | (.inl r4)=>
  some false
 | (.inr r4)=>
  bif (decide (0<(b.length:Int))) then
   some true
  else
   some false
noncomputable def Zdw (a:(List Int)) (b:Int) (s0:Int):Option (Int⊕(Unit⊕Unit)):=
 bif (decide (s0<(a.length:Int))) then
  (ZF a s0).bind fun x1=>
  bif (x1==b) then
   some (.inr (.inl ()))
  else
   some (.inl (w64 (s0+1)))
 else
  some (.inr (.inr ()))
noncomputable def Ze7 (a:(List Int)) (b:Int):Option Bool:=
 (lp (Zdw a b) 0).bind fun r2=>
 match r2 with
 | (.inl r2)=>
  some true
 | (.inr r2)=>
  some false
noncomputable def Zb7 (x1:Zm) (s4:Int):Option (Int⊕(Unit⊕Unit)):=
 bif (decide (s4<(x1.ins.length:Int))) then
  (ZF x1.ins s4).bind fun x5=>
  (Ze7 x1.outs x5).bind fun x6=>
  bif x6 then
   some (.inr (.inl ()))
  else
   some (.inl (w64 (s4+1)))
 else
  some (.inr (.inr ()))
noncomputable def Zb8 (a:Zt) (s0:Int):Option (Int⊕(Unit⊕Unit)):=
 bif (decide (s0<(a.barriers.length:Int))) then
  (ZF a.barriers s0).bind fun x1=>
  (Zer a x1.ins).bind fun x2=>
  bif x2 then
   (Zer a x1.outs).bind fun x3=>
   bif x3 then
    (lp (Zb7 x1) 0).bind fun r7=>
    match r7 with
    | (.inl r7)=>
     some (.inr (.inl ()))
    | (.inr r7)=>
     some (.inl (w64 (s0+1)))
   else
    some (.inr (.inl ()))
  else
   some (.inr (.inl ()))
 else
  some (.inr (.inr ()))
noncomputable def Zds (a:Zt):Option Bool:=
 (lp (Zb8 a) 0).bind fun r8=>
 match r8 with
 | (.inl r8)=>
  some false
 | (.inr r8)=>
  some true
noncomputable def Zee (a:Zt):Option Int:=
 bif (decide ((a.parts.length:Int)<1)) then
  some 50
 else
  bif (decide (16<(a.parts.length:Int))) then
   some 50
  else
   bif (decide (48<(a.edges.length:Int))) then
    some 50
   else
    bif (decide (16<(a.futures.length:Int))) then
     some 50
    else
     bif (decide (4<(a.barriers.length:Int))) then
      some 50
     else
      (ZeF a).bind fun x0=>
      bif x0 then
       (Zeh a).bind fun x1=>
       bif x1 then
        (Zef a).bind fun x2=>
        bif x2 then
         (ZdI a).bind fun x3=>
         bif x3 then
          (Zds a).bind fun x4=>
          bif x4 then
           some 0
          else
           some 55
         else
          some 54
        else
         some 53
       else
        some 52
      else
       some 51
noncomputable def ZbP (a:Zt) (b:Int) (s0:Int×(List Int)) (s1:Int×(List Int)):Option ((Int×(List Int))⊕(List Int)):=
 bif (decide (s1.1<(a.futures.length:Int))) then
  (ZF a.futures s1.1).bind fun x2=>
  bif (x2.user==b) then
   bif (x2.pos==s0.1) then
    bif (Nat.ble (List.length s1.2+1) lim) then
     some (.inl ((w64 (s1.1+1)),(s1.2++[s1.1])))
    else
     none
   else
    some (.inl ((w64 (s1.1+1)),s1.2))
  else
   some (.inl ((w64 (s1.1+1)),s1.2))
 else
  some (.inr s1.2)
noncomputable def Zc1 (a:Zt) (b:Int) (s0:Int×(List Int)):Option ((Int×(List Int))⊕(List Int)):=
 bif (decide (s0.1<100)) then
  (lp (ZbP a b s0) (0,s0.2)).bind fun r3=>
  some (.inl ((w64 (s0.1+1)),r3))
 else
  some (.inr s0.2)
noncomputable def Zdc (a:Zt) (b:Int):Option (List Int):=
 (lp (Zc1 a b) (1,([]:(List Int)))).bind fun r4=>
 some r4
noncomputable def Zc9 (a:(List Int)) (b:(List Int)) (s0:Int):Option (Int⊕(Unit⊕Unit)):=
 bif (decide (s0<(a.length:Int))) then
  (ZF a s0).bind fun x1=>
  (ZF b s0).bind fun x2=>
  bif (x1 != x2) then
   some (.inr (.inl ()))
  else
   some (.inl (w64 (s0+1)))
 else
  some (.inr (.inr ()))
noncomputable def Zd4 (a:(List Int)) (b:(List Int)):Option Bool:=
 bif ((a.length:Int) != (b.length:Int)) then
  some false
 else
  (lp (Zc9 a b) 0).bind fun r3=>
  match r3 with
  | (.inl r3)=>
   some false
  | (.inr r3)=>
   some true
noncomputable def Zd3 (a:Zt) (b:Int) (s0:Int×(List Int)):Option ((Int×(List Int))⊕(List Int)):=
 bif (decide (s0.1<(a.edges.length:Int))) then
  (ZF a.edges s0.1).bind fun x1=>
  bif (x1.dst==b) then
   bif (Nat.ble (List.length s0.2+1) lim) then
    some (.inl ((w64 (s0.1+1)),(s0.2++[x1.src])))
   else
    none
  else
   some (.inl ((w64 (s0.1+1)),s0.2))
 else
  some (.inr s0.2)
noncomputable def Zd2 (a:Zt) (x3:(List Int)) (s4:Int×(List Int)):Option ((Int×(List Int))⊕(List Int)):=
 bif (decide (s4.1<(x3.length:Int))) then
  (ZF x3 s4.1).bind fun x5=>
  (ZF a.futures x5).bind fun x6=>
  bif (Nat.ble (List.length s4.2+1) lim) then
   some (.inl ((w64 (s4.1+1)),(s4.2++[x6.maker])))
  else
   none
 else
  some (.inr s4.2)
noncomputable def Zec (a:Zt) (b:Int):Option (List Int):=
 (lp (Zd3 a b) (0,([]:(List Int)))).bind fun r2=>
 (Zdc a b).bind fun x3=>
 (lp (Zd2 a x3) (0,r2)).bind fun r7=>
 some r7
noncomputable def ZdR (a:Zt) (b:Int):Option Bool:=
 Zeg.bind fun x0=>
 bif x0 then
  (Ze3 a).bind fun x1=>
  bif x1 then
   (Zeq a).bind fun x2=>
   (Zcm (Zt.mk a.period a.deadline a.parts a.edges a.futures x2) b).bind fun x3=>
   (Zeq a).bind fun x4=>
   (ZdD (Zt.mk a.period a.deadline a.parts a.edges a.futures x4) b).bind fun x5=>
   (Zee a).bind fun x6=>
   bif (x6 != 0) then
    bif ((x3.length:Int)==0) then
     bif ((x5.length:Int)==0) then
      some true
     else
      some false
    else
     some false
   else
    (Zdc a b).bind fun x7=>
    (Zd4 x3 x7).bind fun x8=>
    bif x8 then
     (Zec a b).bind fun x9=>
     (Zd4 x5 x9).bind fun x10=>
     bif x10 then
      some true
     else
      some false
    else
     some false
  else
   Zeg.bind fun x11=>
   bif x11 then
    some true
   else
    some false
 else
  Zeg.bind fun x12=>
  bif x12 then
   some true
  else
   some false
end Go.Proofs.YtnpidpcmpleiaaaDoor
namespace Go.Proofs.YtnpidpcmpleiaaaDoorE
open Go
set_option linter.unusedVariables false
set_option linter.unusedSimpArgs false
theorem Zfn {i n:Nat} (h:i<n):decide ((i:Int)<(n:Int))=true:=decide_eq_true (by omega)
theorem Zfk (n:Nat):decide ((n:Int)<(n:Int))=false:=decide_eq_false (by omega)
theorem Za5 {γ:Type}{l:List γ}{i:Nat}{x:γ} (h:l[i]? = some x):ZF l (i:Int)=some x:=(ZqW l i).trans h
theorem ZoY {γ:Type}{l:List γ}{i:Int}{x:γ} (h0:0≤i) (h:l[i.toNat]? = some x):ZF l i=some x:=by
 have:=Za5 h
 rwa [Int.toNat_of_nonneg h0] at this
theorem Zea {n:Int} (h1 : -9223372036854775808≤n) (h2:n<9223372036854775808):w64 n=n:=Zt3 h1 h2
theorem Zae {i n:Nat} (h:i<n) (hn:n<9223372036854775808):w64 ((i:Int)+1)=((i+1:Nat):Int):=by rw[Zea (by omega) (by omega)];omega
theorem Zk4 {n:Nat} (h:n≤1073741824):Nat.ble n lim=true:=Nat.ble_eq_true_of_le h
def ZjJ {γ S R:Type} (f:Nat→γ→S→Option (S⊕R)) (fin:S→Option R):Nat→List γ→S→Option R
 | _,[],s=>fin s
 | i,x :: l,s=>(match f i x s with | some (.inl s')=>ZjJ f fin (i+1) l s' | some (.inr r)=>some r | none=>none)
theorem ZmI {γ S St R:Type} (l:List γ) (Zav:St→Option (St⊕R)) (st:Nat→S→St) (f:Nat→γ→S→Option (S⊕R)) (fin:S→Option R)
  (h1:∀i x s,i<l.length→l[i]? = some x→Zav (st i s)=(match f i x s with | some (.inl s')=>some (.inl (st (i+1) s')) | some (.inr r)=>some (.inr r) | none=>none))
  (h2:∀s,Zav (st l.length s)=(fin s).map Sum.inr):∀s,lp Zav (st 0 s)=ZjJ f fin 0 l s:=by
 have key:∀(k i:Nat) (s:S),i+k=l.length→lp Zav (st i s)=ZjJ f fin i (l.drop i) s:=by
  intro k
  induction k with
  | zero=>
   intro i s hi
   have:i=l.length:=by omega
   subst this
   rw[List.drop_length,Zb9,h2]
   unfold ZjJ
   cases fin s<;>rfl
  | succ k ih=>
   intro i s hi
   have hi':i<l.length:=by omega
   rw[List.drop_eq_getElem_cons hi',Zb9,h1 i l[i] s hi' (List.getElem?_eq_getElem hi')]
   conv=>rhs;unfold ZjJ
   cases f i l[i] s with
   | none=>rfl
   | some t=>
    cases t with
    | inl s'=>exact ih (i+1) s' (by omega)
    | inr r=>rfl
 intro s
 have:=key l.length 0 s (by omega)
 rwa [List.drop_zero] at this
def Zm7 {γ R:Type} (p:Nat→γ→Bool) (out:Nat→γ→R) (fin:R):Nat→List γ→R
 | _,[]=>fin
 | i,x :: l=>bif p i x then out i x else Zm7 p out fin (i+1) l
theorem ZdQ {γ R:Type} (l:List γ) (Zav:Int→Option (Int⊕R)) (p:Nat→γ→Bool) (out:Nat→γ→R) (fin:R)
  (h1:∀i x,i<l.length→l[i]? = some x→Zav (i:Int)=some (bif p i x then .inr (out i x) else .inl ((i+1:Nat):Int)))
  (h2:Zav (l.length:Int)=some (.inr fin)):lp Zav 0=some (Zm7 p out fin 0 l):=by
 have key:=ZmI (S:=Unit) l Zav (fun i _=>(i:Int)) (fun i x _=>some (bif p i x then .inr (out i x) else .inl ())) (fun _=>some fin)
  (fun i x s hi hx=>by rw[h1 i x hi hx];cases p i x<;>rfl) (fun _=>h2) ()
 refine(key:lp Zav 0=_).trans ?_
 have:∀(l:List γ) (i:Nat),ZjJ (S:=Unit) (fun i x _=>some (bif p i x then Sum.inr (out i x) else Sum.inl ())) (fun _=>some fin) i l ()=some (Zm7 p out fin i l):=by
  intro l
  induction l with
  | nil=>intro i;rfl
  | cons x l ih=>
   intro i
   unfold ZjJ Zm7
   cases p i x with
   | true=>rfl
   | false=>exact ih (i+1)
 exact this l 0
def Zfl {γ:Type} (p:Nat→γ→Bool):Nat→List γ→Bool
 | _,[]=>false
 | i,x :: l=>p i x || Zfl p (i+1) l
theorem Ze1 {γ:Type} (p:γ→Bool):∀(l:List γ) (i:Nat),Zfl (fun _=>p) i l=l.any p
 | [],_=>rfl
 | x :: l,i=>by rw[Zfl,List.any_cons,Ze1 p l]
theorem Zb1 {γ R:Type} (p:Nat→γ→Bool) (c fin:R):∀(l:List γ) (i:Nat),Zm7 p (fun _ _=>c) fin i l=bif Zfl p i l then c else fin
 | [],_=>rfl
 | x :: l,i=>by
  unfold Zm7 Zfl
  rw[Zb1 p c fin l (i+1)]
  cases p i x<;>rfl
theorem Zld {γ R:Type} (p:γ→Bool) (fin:R):∀(l:List γ) (i:Nat),(∃j:Nat,Zm7 (fun _=>p) (fun i _=>(Sum.inl (i:Int):Int⊕R)) (.inr fin) i l = .inl (j:Int)∧l.any p=true)∨(Zm7 (fun _=>p) (fun i _=>(Sum.inl (i:Int):Int⊕R)) (.inr fin) i l = .inr fin∧l.any p=false)
 | [],_=>.inr ⟨rfl,rfl⟩
 | x :: l,i=>by
  unfold Zm7
  rw[List.any_cons]
  cases h:p x with
  | true=>exact .inl ⟨i,rfl,rfl⟩
  | false=>simpa using Zld p fin l (i+1)
theorem Zk8 {γ:Type} (p:Nat→γ→Bool):∀(l:List γ) (i:Nat),Zfl p i l=true↔∃j x,l[j]? = some x∧p (i+j) x=true
 | [],i=>by simp[Zfl]
 | x :: l,i=>by
  rw[Zfl,Bool.or_eq_true,Zk8 p l (i+1)]
  constructor
  ·rintro (h | ⟨j,y,hj,hp⟩)
   ·exact⟨0,x,rfl,h⟩
   ·exact⟨j+1,y,by simpa using hj,by rw[show i+(j+1)=i+1+j by omega];exact hp⟩
  ·rintro ⟨j,y,hj,hp⟩
   cases j with
   | zero=>left;simp at hj;subst hj;exact hp
   | succ j=>right;exact⟨j,y,by simpa using hj,by rw[show i+1+j=i+(j+1) by omega];exact hp⟩
theorem Zr4 {γ:Type} [DecidableEq γ] (a b:List γ) (he:a.length=b.length) (Zav:Int→Option (Int⊕(Unit⊕Unit)))
  (h1:∀i x y,i<a.length→a[i]? = some x→b[i]? = some y→Zav (i:Int)=some (bif decide (x=y) then .inl ((i+1:Nat):Int) else .inr (.inl ())))
  (h2:Zav (a.length:Int)=some (.inr (.inr ()))):lp Zav 0=some (bif decide (a=b) then .inr () else .inl ()):=by
 have key:∀(k i:Nat),i+k=a.length→lp Zav (i:Int)=some (bif decide (a.drop i=b.drop i) then .inr () else .inl ()):=by
  intro k
  induction k with
  | zero=>
   intro i hi
   have:i=a.length:=by omega
   subst this
   rw[Zb9,h2,List.drop_length,he,List.drop_length]
   rfl
  | succ k ih=>
   intro i hi
   have ha:i<a.length:=by omega
   have hb:i<b.length:=by omega
   rw[Zb9,h1 i a[i] b[i] ha (List.getElem?_eq_getElem ha) (List.getElem?_eq_getElem hb),List.drop_eq_getElem_cons ha,List.drop_eq_getElem_cons hb]
   by_cases h:a[i]=b[i]
   ·rw[decide_eq_true h]
    simp only[cond_true]
    rw[ih (i+1) (by omega)]
    by_cases h3:a.drop (i+1)=b.drop (i+1)
    ·rw[decide_eq_true h3,decide_eq_true (by rw[h,h3])]
    ·rw[decide_eq_false h3,decide_eq_false (by intro h4;exact h3 (List.cons.inj h4).2)]
   ·rw[decide_eq_false h,decide_eq_false (by intro h4;exact h (List.cons.inj h4).1)]
    rfl
 have:=key a.length 0 (by omega)
 rwa [List.drop_zero,List.drop_zero] at this
end Go.Proofs.YtnpidpcmpleiaaaDoorE
namespace Go.Proofs.YtnpidpcmpleiaaaDoor
open Go Go.Proofs.YtnpidpcmpleiaaaDoorE
set_option linter.unusedVariables false
set_option linter.unusedSimpArgs false
def Zb5 (n a b:Int):Bool:=decide (a≤n)&&decide (n≤b)
theorem ZhD (n a b:Int):Za6 n a b=some (Zb5 n a b):=by
 unfold Za6 Zb5
 cases decide (a≤n)<;>cases decide (n≤b)<;>rfl
theorem ZhM (x:Int) (n:Nat):Zb5 x 0 ((n:Int)-1)=(decide (0≤x)&&decide (x<(n:Int))):=by
 unfold Zb5
 congr 1
 exact decide_eq_decide.2 (by omega)
def ZdS (p:ZQ):Bool:=!(Zb5 p.op 0 5&&(Zb5 p.arg 0 2147483647&&Zb5 p.work 1 100))
theorem Ztx (p:ZQ):Zdz p=some (ZdS p):=by
 unfold Zdz ZdS
 simp only[ZhD,Option.bind_some]
 cases Zb5 p.op 0 5<;>cases Zb5 p.arg 0 2147483647<;>cases Zb5 p.work 1 100<;>rfl
theorem ZhJ {γ:Type} (l:List γ) (p:γ→Bool) (Zav:Int→Option (Int⊕(Int⊕Unit)))
  (h1:∀i x,i<l.length→l[i]? = some x→Zav (i:Int)=some (bif p x then .inr (.inl (i:Int)) else .inl ((i+1:Nat):Int)))
  (h2:Zav (l.length:Int)=some (.inr (.inr ()))) :
  (((lp Zav 0).bind fun(r:Int⊕Unit)=>match r with | .inl r=>some r | .inr _=>some (-1)).bind fun x=>bif decide (0≤x) then some true else some false)=some (l.any p):=by
 rw[ZdQ l Zav (fun _=>p) (fun i _=>.inl (i:Int)) (.inr ()) h1 h2]
 rcases Zld p () l 0 with⟨j,e1,e2⟩ | ⟨e1,e2⟩
 ·rw[e1,e2]
  show(bif decide ((0:Int)≤(j:Int)) then some true else some false)=some true
  rw[decide_eq_true (by omega)]
  rfl
 ·rw[e1,e2]
  rfl
theorem ZlA (l:List ZQ) (f:ZQ→Option Bool) (p:ZQ→Bool) (hf:∀x∈l,f x=some (p x)) (hl:l.length<9223372036854775808):ZaB l f=some (l.any p):=by
 unfold ZaB Zbx
 refine ZhJ l p _ (fun i x hi hx=>?_) ?_
 ·simp only[ZaA,Zfn hi,Za5 hx,Option.bind_some,hf x (List.mem_of_getElem? hx),Zae hi hl,cond_true]
  cases p x<;>rfl
 ·simp only[ZaA,Zfk];rfl
def Zj2 (e x:ZL):Bool:=e.src==x.src&&(e.dst==x.dst&&true)
theorem Zp6 (l:List ZL) (e:ZL) (hl:l.length<9223372036854775808):ZaT l e=some (l.any (Zj2 e)):=by
 unfold ZaT ZbY
 refine ZhJ l (Zj2 e) _ (fun i x hi hx=>?_) ?_
 ·simp only[ZaS,Zfn hi,Za5 hx,Option.bind_some,Zae hi hl,cond_true,Zj2]
  cases (e.src==x.src&&(e.dst==x.dst&&true))<;>rfl
 ·simp only[ZaS,Zfk];rfl
def again (f g:Zn):Bool:=g.user==f.user&&g.pos==f.pos
theorem ZjD (l:List Zn) (f:Zn→Option Bool) (p:Zn→Bool) (hf:∀x∈l,f x=some (p x)) (hl:l.length<9223372036854775808):Zan l f=some (l.any p):=by
 unfold Zan ZaU
 refine ZhJ l p _ (fun i x hi hx=>?_) ?_
 ·simp only[Zam,Zfn hi,Za5 hx,Option.bind_some,hf x (List.mem_of_getElem? hx),Zae hi hl,cond_true]
  cases p x<;>rfl
 ·simp only[Zam,Zfk];rfl
theorem Zse (f g:Zn):Zcn g f.user f.pos=some (again f g):=by
 unfold Zcn again
 cases (g.user==f.user)<;>cases (g.pos==f.pos)<;>rfl
theorem ZrH (l:List Int) (n:Int) (hl:l.length<9223372036854775808):Zbb l n=some (l.any (fun x=>n==x)):=by
 unfold Zbb Zcj
 refine ZhJ l (fun x=>n==x) _ (fun i x hi hx=>?_) ?_
 ·simp only[Zbe,Zfn hi,Za5 hx,Option.bind_some,Zae hi hl,cond_true]
  cases (n==x)<;>rfl
 ·simp only[Zbe,Zfk];rfl
def Zkf (b:Zm) (n:Int):Bool:=b.outs.any fun x=>n==x
theorem ZlQ (l:List Int) (f:Int→Option Bool) (p:Int→Bool) (hf:∀x∈l,f x=some (p x)) (hl:l.length<9223372036854775808):ZaL l f=some (l.any p):=by
 unfold ZaL ZbN
 refine ZhJ l p _ (fun i x hi hx=>?_) ?_
 ·simp only[ZaK,Zfn hi,Za5 hx,Option.bind_some,hf x (List.mem_of_getElem? hx),Zae hi hl,cond_true]
  cases p x<;>rfl
 ·simp only[ZaK,Zfk];rfl
theorem Zu9 (b:Zm) (h2:b.outs.length<9223372036854775808) (n:Int):Zcp n b.outs=some (Zkf b n):=by
 unfold Zcp
 simp only[ZrH _ _ h2,Option.bind_some]
 unfold Zkf
 cases (b.outs.any fun y=>n==y)<;>rfl
def two (n:Nat) (a b:Int):Bool:=(a != b)&&(Zb5 a 0 (n-1)&&Zb5 b 0 (n-1))
theorem ZsQ (d:Zt) (hl:d.parts.length<9223372036854775808) (a b:Int):ZeR d a b=some (two d.parts.length a b):=by
 unfold ZeR two
 rw[Zea (by omega) (by omega)]
 simp only[ZhD,Option.bind_some]
 cases (a != b)<;>cases Zb5 a 0 (d.parts.length-1)<;>cases Zb5 b 0 (d.parts.length-1)<;>rfl
def ZnL (n:Nat) (l:List Int) (i:Nat) (x:Int):Bool:=!(Zb5 x 0 (n-1)) || (match i with | 0=>false | j+1=>match l[j]? with | some y=>decide (x≤y) | none=>false)
def Ziy (n:Nat) (l:List Int):Bool:=!(Zfl (ZnL n l) 0 l) && !l.isEmpty
theorem Zpc (b:Bool) (l:List Int):((some (bif b then (Sum.inl ():Unit⊕Unit) else .inr ())).bind fun r=>match r with | .inl _=>some false | .inr _=>bif decide (0<(l.length:Int)) then some true else some false)=some (!b && !l.isEmpty):=by
 cases b with
 | true=>rfl
 | false=>
  cases l with
  | nil=>rfl
  | cons x l=>show(bif decide (0<((x :: l).length:Int)) then some true else some false)=some true;rw[decide_eq_true (by rw[List.length_cons];omega)];rfl
theorem ZsR (d:Zt) (hd:d.parts.length<9223372036854775808) (l:List Int) (hl:l.length<9223372036854775808):ZeS d l=some (Ziy d.parts.length l):=by
 have key:=ZdQ l (ZdN d l) (ZnL d.parts.length l) (fun _ _=>.inl ()) (.inr ()) (fun i x hi hx=>by
   simp only[ZdN,Zfn hi,Za5 hx,Option.bind_some,Zae hi hl,cond_true,ZhD,ZnL]
   rw[Zea (by omega) (by omega)]
   cases Zb5 x 0 (d.parts.length-1) with
   | false=>rfl
   | true=>
    cases i with
    | zero=>rfl
    | succ i=>
     rw[decide_eq_true (show(0:Int)<((i+1:Nat):Int) by omega),Zea (by omega) (by omega),show(((i+1:Nat):Int)-1)=(i:Int) by omega]
     have hi2:l[i]? = some l[i]:=List.getElem?_eq_getElem (by omega)
     rw[Za5 hi2]
     simp only[cond_true,Option.bind_some,Bool.not_true,Bool.false_or,hi2]
     cases decide (x≤l[i])<;>rfl) (by simp only[ZdN,Zfk];rfl)
 unfold ZeS Ziy
 rw[key,Zb1]
 exact Zpc _ _
end Go.Proofs.YtnpidpcmpleiaaaDoor
namespace Go.Proofs.YtnpidpcmpleiaaaDoor
open Go Go.Proofs.YtnpidpcmpleiaaaDoorE
set_option linter.unusedVariables false
set_option linter.unusedSimpArgs false
def Zhy (n:Int):Int:=bif decide (n<0) then 10 else bif decide (1099511627775<n) then 11 else 0
theorem Zof (n:Int):Ze0 n=some (Zhy n):=by
 unfold Ze0 Zhy
 cases decide (n<0)<;>cases decide (1099511627775<n)<;>rfl
noncomputable def Zps (x:Int):Int:=match ZbT x with | some n=>n | none=>0
theorem Zt6 (x:Int):Zcb x=some (Zps x):=by
 unfold Zcb Zps ZbT
 rfl
def ZrV (n:Nat):Bool:=[1,2,4,8,16,32,64,128,256,512,1024,2048,4096].contains n
theorem ZoG:((List.range 4097).all fun n=>(Zps (IntKind.u64.wrap (n:Int))==1)==ZrV n)=true:=by kernel_rfl
theorem ZoX (n:Nat) (h:n≤4096):(Zps (IntKind.u64.wrap (n:Int))==1)=ZrV n:=by
 have:=List.all_eq_true.1 ZoG n (by simp;omega)
 simpa using this
noncomputable def ZlO (n:Int):Bool:=!(Zhy n != 0) && !(Zps (IntKind.u64.wrap n) != 1)
theorem Zqv (n:Int):∃k,ZgA n=some (k,ZlO n):=by
 have tz:∃k,Zca (IntKind.u64.wrap n)=some k:=⟨_,rfl⟩
 obtain⟨k,hk⟩:=tz
 unfold ZgA ZlO
 simp only[Zof,Zt6,Option.bind_some,hk]
 cases (Zhy n != 0)
 ·cases (Zps (IntKind.u64.wrap n) != 1)
  ·exact⟨k,rfl⟩
  ·exact⟨0,rfl⟩
 ·exact⟨0,rfl⟩
theorem ZrP {n:Int} (h:n<0):ZlO n=false:=by
 have:(Zhy n != 0)=true:=by unfold Zhy;rw[decide_eq_true h];rfl
 simp only[ZlO,this];rfl
theorem ZoK (n:Nat) (h:n≤4096):ZlO (n:Int)=ZrV n:=by
 have h1:(Zhy (n:Int) != 0)=false:=by
  unfold Zhy
  rw[decide_eq_false (show ¬((n:Int)<0) by omega),decide_eq_false (show ¬((1099511627775:Int)<n) by omega)]
  rfl
 rw[← ZoX n h]
 unfold ZlO
 rw[h1]
 unfold bne
 rw[Bool.not_not]
 rfl
end Go.Proofs.YtnpidpcmpleiaaaDoor
namespace Go.Proofs.YtnpidpcmpleiaaaDoor
open Go Go.Proofs.YtnpidpcmpleiaaaDoorE
set_option linter.unusedVariables false
set_option linter.unusedSimpArgs false
def ZuF (b:Zm):Prop:=b.ins.length<9223372036854775808∧b.outs.length<9223372036854775808
structure Zeo (d:Zt):Prop where
 p:d.parts.length<9223372036854775808
 e:d.edges.length<9223372036854775808
 f:d.futures.length<9223372036854775808
 b:d.barriers.length<9223372036854775808
 i:∀b∈d.barriers,ZuF b
theorem Zlh {γ:Type}{l:List γ}{i n:Nat} (h:l.length<n):(l.take i).length<n:=by rw[List.length_take];omega
def ZdF (d:Zt) (i:Nat) (e:ZL):Bool:=!(two d.parts.length e.src e.dst) || (d.edges.take i).any (Zj2 e)
theorem Zsk (d:Zt) (h:Zeo d):lp (Zcz d) 0=some (bif Zfl (ZdF d) 0 d.edges then .inl () else .inr ()):=by
 have key:=ZdQ d.edges (Zcz d) (ZdF d) (fun _ _=>.inl ()) (.inr ()) (fun i x hi hx=>by
   simp only[Zcz,Zfn hi,Za5 hx,Option.bind_some,Zae hi h.e,cond_true,ZsQ d h.p,ZdF,Int.toNat_natCast,Zp6 _ _ (Zlh h.e)]
   rw[decide_eq_true (show(0:Int)≤(i:Int) by omega),Nat.ble_eq_true_of_le (Nat.le_of_lt hi)]
   cases two d.parts.length x.src x.dst<;>cases (d.edges.take i).any (Zj2 x)<;>rfl) (by simp only[Zcz,Zfk];rfl)
 rw[key,Zb1]
def Zgt (ps:List ZQ) (z:Int):Int:=match ps[z.toNat]? with | some p=>p.work | none=>0
def Zb6 (d:Zt) (i:Nat) (f:Zn):Bool:=!(two d.parts.length f.maker f.user) || (!(Zb5 f.pos 1 (Zgt d.parts f.user-1)) || (d.futures.take i).any (again f))
theorem Zt8 {n:Nat}{a b:Int} (h:two n a b=true):(0≤a∧a.toNat<n)∧(0≤b∧b.toNat<n)∧a≠b:=by
 simp only[two,Zb5,Bool.and_eq_true,decide_eq_true_eq,bne_iff_ne] at h
 omega
theorem Znb {γ:Type}{l:List γ}{z:Int} (h0:0≤z) (h:z.toNat<l.length):ZF l z=some l[z.toNat]:=ZoY h0 (List.getElem?_eq_getElem h)
theorem Zp0 (d:Zt) (h:Zeo d) (hg:∀p∈d.parts,1≤p.work∧p.work≤100):lp (ZcD d) 0=some (bif Zfl (Zb6 d) 0 d.futures then .inl () else .inr ()):=by
 have key:=ZdQ d.futures (ZcD d) (Zb6 d) (fun _ _=>.inl ()) (.inr ()) (fun i x hi hx=>by
   simp only[ZcD,Zfn hi,Za5 hx,Option.bind_some,Zae hi h.f,cond_true,ZsQ d h.p,Zb6]
   cases h1:two d.parts.length x.maker x.user with
   | false=>rfl
   | true=>
    obtain⟨_,⟨u1,u2⟩,_⟩:=Zt8 h1
    have w:=hg _ (List.getElem_mem u2)
    have wa:Zgt d.parts x.user=d.parts[x.user.toNat].work:=by simp only[Zgt,List.getElem?_eq_getElem u2]
    rw[← wa] at w
    rw[Znb u1 u2]
    simp only[cond_true,Option.bind_some,ZhD,← wa,Zea (show -9223372036854775808≤Zgt d.parts x.user-1 by omega) (by omega),Int.toNat_natCast]
    rw[decide_eq_true (show(0:Int)≤(i:Int) by omega),Nat.ble_eq_true_of_le (Nat.le_of_lt hi),ZjD _ _ (again x) (fun y _=>Zse x y) (Zlh h.f)]
    cases Zb5 x.pos 1 (Zgt d.parts x.user-1)<;>cases (d.futures.take i).any (again x)<;>rfl) (by simp only[ZcD,Zfk];rfl)
 rw[key,Zb1]
def Zdj (n:Nat) (b:Zm):Bool:=!(Ziy n b.ins) || (!(Ziy n b.outs) || b.ins.any (Zkf b))
theorem ZoL (d:Zt) (h:Zeo d):lp (ZcB d) 0=some (bif d.barriers.any (Zdj d.parts.length) then .inl () else .inr ()):=by
 have key:=ZdQ d.barriers (ZcB d) (fun _=>Zdj d.parts.length) (fun _ _=>.inl ()) (.inr ()) (fun i x hi hx=>by
   have hb:=h.i x (List.mem_of_getElem? hx)
   simp only[ZcB,Zfn hi,Za5 hx,Option.bind_some,Zae hi h.b,cond_true,ZsR d h.p _ hb.1,ZsR d h.p _ hb.2,Zdj,ZlQ x.ins _ (Zkf x) (fun y _=>Zu9 x hb.2 y) hb.1]
   cases Ziy d.parts.length x.ins<;>cases Ziy d.parts.length x.outs<;>cases x.ins.any (Zkf x)<;>rfl) (by simp only[ZcB,Zfk];rfl)
 rw[key,Zb1,Ze1]
noncomputable def ZiW (d:Zt):Bool:=ZlO d.period&&(!decide (4096<d.period)&&Zb5 d.deadline 1 d.period)
def Zk1 (d:Zt):Bool:=Zb5 (d.parts.length:Int) 1 16&&(!decide ((48:Int)<d.edges.length)&&(!decide ((16:Int)<d.futures.length) && !decide ((4:Int)<d.barriers.length)))
noncomputable def ZeC (d:Zt):Int:=
 bif Zk1 d then bif ZiW d then bif d.parts.any ZdS then 52 else bif Zfl (ZdF d) 0 d.edges then 53 else
 bif Zfl (Zb6 d) 0 d.futures then 54 else bif d.barriers.any (Zdj d.parts.length) then 55 else 0 else 51 else 50
theorem ZlF {ps:List ZQ} (h:ps.any ZdS=false):∀p∈ps,1≤p.work∧p.work≤100:=fun p hp=>by
 have:=List.any_eq_false.1 h p hp
 simp only[ZdS,Zb5,Bool.not_eq_true,Bool.not_eq_false',Bool.and_eq_true,decide_eq_true_eq] at this
 exact this.2.2
theorem Zkn (d:Zt) (h:Zeo d):Zd5 d=some (ZeC d):=by
 obtain⟨k,hk⟩:=Zqv d.period
 unfold Zd5 ZeC Zk1 ZiW
 simp only[ZhD,Option.bind_some,hk,ZlA _ _ ZdS (fun x _=>Ztx x) h.p,Zsk d h,ZoL d h]
 cases Zb5 (d.parts.length:Int) 1 16 with
 | false=>rfl
 | true=>
  cases decide ((48:Int)<d.edges.length) with
  | true=>rfl
  | false=>
   cases decide ((16:Int)<d.futures.length) with
   | true=>rfl
   | false=>
    cases decide ((4:Int)<d.barriers.length) with
    | true=>rfl
    | false=>
     cases ZlO d.period with
     | false=>rfl
     | true=>
      cases decide (4096<d.period) with
      | true=>rfl
      | false=>
       cases Zb5 d.deadline 1 d.period with
       | false=>rfl
       | true=>
        cases hp:d.parts.any ZdS with
        | true=>rfl
        | false=>
         rw[Zp0 d h (ZlF hp)]
         cases Zfl (ZdF d) 0 d.edges<;>cases Zfl (Zb6 d) 0 d.futures<;>cases d.barriers.any (Zdj d.parts.length)<;>rfl
end Go.Proofs.YtnpidpcmpleiaaaDoor
namespace Go.Proofs.YtnpidpcmpleiaaaDoor
open Go Go.Proofs.YtnpidpcmpleiaaaDoorE
set_option linter.unusedVariables false
set_option linter.unusedSimpArgs false
def ZkW (b:Zm):Bool:=decide (20<(b.ins.length:Int)) || decide (20<(b.outs.length:Int))
def few (d:Zt):Bool:=!((d.barriers.take 9).any ZkW)&&(decide ((d.parts.length:Int)≤20)&&(decide ((d.edges.length:Int)≤60)&&(decide ((d.futures.length:Int)≤20)&&decide ((d.barriers.length:Int)≤8))))
theorem ZuH (d:Zt):Ze3 d=some (few d):=by
 have hl:(d.barriers.take 9).length=min 9 d.barriers.length:=List.length_take
 have key:=ZdQ (d.barriers.take 9) (Zdp d) (fun _=>ZkW) (fun _ _=>.inl ()) (.inr ()) (fun i x hi hx=>by
   have h9:i<9:=by omega
   rw[List.getElem?_take_of_lt h9] at hx
   simp only[Zdp,Zfn (show i<d.barriers.length by omega),Za5 hx,Option.bind_some,Zae h9 (by omega),cond_true,ZkW,decide_eq_true (show(i:Int)<9 by omega)]
   cases decide (20<(x.ins.length:Int))<;>cases decide (20<(x.outs.length:Int))<;>rfl) (by
   rw[hl]
   unfold Zdp
   by_cases h:d.barriers.length≤9
   ·rw[Nat.min_eq_right h,Zfk];rfl
   ·rw[Nat.min_eq_left (by omega),decide_eq_true (show((9:Nat):Int)<d.barriers.length by omega)];rfl)
 unfold Ze3 few
 rw[key,Zb1,Ze1]
 cases (d.barriers.take 9).any ZkW<;>cases decide ((d.parts.length:Int)≤20)<;>cases decide ((d.edges.length:Int)≤60)<;>cases decide ((d.futures.length:Int)≤20)<;>cases decide ((d.barriers.length:Int)≤8)<;>rfl
structure Zo1 (d:Zt):Prop where
 p:d.parts.length≤20
 e:d.edges.length≤60
 f:d.futures.length≤20
 b:d.barriers.length≤8
 i:∀b∈d.barriers,b.ins.length≤20∧b.outs.length≤20
theorem Zpz {d:Zt} (h:few d=true):Zo1 d:=by
 unfold few at h
 simp only[Bool.and_eq_true,decide_eq_true_eq,Bool.not_eq_true'] at h
 obtain⟨h1,h2,h3,h4,h5⟩:=h
 refine⟨by omega,by omega,by omega,by omega,fun b hb=>?_⟩
 have:=List.any_eq_false.1 h1 b (by rw[List.take_of_length_le (by omega)];exact hb)
 simp only[ZkW,Bool.or_eq_true,decide_eq_true_eq,not_or] at this
 omega
theorem Zo1.short {d:Zt} (h:Zo1 d):Zeo d:=
 ⟨by have:=h.p;omega,by have:=h.e;omega,by have:=h.f;omega,by have:=h.b;omega,fun b hb=>⟨by have:=(h.i b hb).1;omega,by have:=(h.i b hb).2;omega⟩⟩
theorem Zvb (d:Zt) (h:Zo1 d):Zeq d=some d.barriers:=by
 have key:=ZmI d.barriers (ZcW d) (fun i (s:List Zm)=>((i:Int),s)) (fun i x s=>bif Nat.ble (s.length+1) lim then some (.inl (s++[x])) else none) (fun s=>some s) (fun i x s hi hx=>by
   have hb:=h.i x (List.mem_of_getElem? hx)
   simp only[ZcW,Zfn hi,Za5 hx,Option.bind_some,Zae hi h.short.b,cond_true,Zk4 (show x.ins.length≤1073741824 by omega),Zk4 (show x.outs.length≤1073741824 by omega)]
   cases Nat.ble (s.length+1) lim<;>rfl) (fun s=>by simp only[ZcW,Zfk];rfl) []
 have sc:∀(l:List Zm) (i:Nat) (s:List Zm),s.length+l.length≤1073741824→ZjJ (fun i x s=>bif Nat.ble (s.length+1) lim then some (Sum.inl (s++[x])) else (none:Option (List Zm⊕List Zm))) (fun s=>some s) i l s=some (s++l):=by
  intro l
  induction l with
  | nil=>intro i s _;simp[ZjJ]
  | cons x l ih=>
   intro i s hs
   rw[List.length_cons] at hs
   unfold ZjJ
   rw[Zk4 (by omega)]
   simp only[cond_true]
   rw[ih (i+1) (s++[x]) (by rw[List.length_append];simp;omega)]
   simp
 rw[sc _ _ _ (by have:=h.b;simp;omega)] at key
 unfold Zeq
 rw[Zk4 (show List.length d.parts≤1073741824 by have:=h.p;omega),Zk4 (show List.length d.edges≤1073741824 by have:=h.e;omega),Zk4 (show List.length d.futures≤1073741824 by have:=h.f;omega)]
 show(lp (ZcW d) (((0:Nat):Int),[])).bind _=_
 rw[key]
 rfl
end Go.Proofs.YtnpidpcmpleiaaaDoor
namespace Go.Proofs.YtnpidpcmpleiaaaDoor
open Go Go.Proofs.YtnpidpcmpleiaaaDoorE Go.Sort
set_option linter.unusedVariables false
set_option linter.unusedSimpArgs false
structure OKA (P:Int→Prop) (d:Array Int):Prop where
 el:∀i,i<d.size→P d[i]!
 sz:d.size≤1000
theorem Zbi {d:Array Int}{i:Nat} (h:i<d.size):ZF d.toList (i:Int)=some d[i]!:=by
 refine Za5 ?_
 rw[Array.getElem?_toList,Array.getElem?_eq_getElem h,getElem!_pos d i h]
theorem Ztb (d:Array Int) (i:Nat) (x:Int):List.set d.toList i x=(d.setIfInBounds i x).toList:=by simp
theorem Ze5 (d:Array Int) (i j:Nat):List.set (List.set d.toList i d[j]!) j d[i]! = (swp d i j).toList:=by
 unfold swp
 rw[Ztb,Ztb]
theorem ZhC {d:Array Int}{i j:Nat}{x:Int} (h:j<d.size):∃y,ZF (List.set d.toList i x) (j:Int)=some y:=by
 rw[Ztb]
 exact⟨_,Zbi (by simpa using h)⟩
theorem Z3 (d:Array Int) (i j:Nat):(swp d i j).size=d.size:=by unfold swp;simp
theorem ZsK {d:Array Int}{i j k:Nat} (hi:i<d.size) (hj:j<d.size):(swp d i j)[k]! = if k=j then d[i]! else if k=i then d[j]! else d[k]!:=by
 unfold swp
 by_cases hk:k<d.size
 ·rw[getElem!_pos _ k (by simpa using hk),getElem!_pos d k hk,Array.getElem_setIfInBounds (by simpa using hk)]
  by_cases h1:j=k
  ·rw[if_pos h1,if_pos h1.symm]
  ·rw[if_neg h1,if_neg (Ne.symm h1),Array.getElem_setIfInBounds hk]
   by_cases h2:i=k
   ·rw[if_pos h2,if_pos h2.symm]
   ·rw[if_neg h2,if_neg (Ne.symm h2)]
 ·rw[getElem!_neg _ k (by simpa using hk),getElem!_neg d k hk,if_neg (by omega),if_neg (by omega)]
theorem OKA.swp {P:Int→Prop}{d:Array Int} (h:OKA P d) {i j:Nat} (hi:i<d.size) (hj:j<d.size):OKA P (swp d i j):=
 ⟨fun k hk=>by
  rw[Z3] at hk
  rw[ZsK hi hj]
  split
  ·exact h.el _ hi
  ·split
   ·exact h.el _ hj
   ·exact h.el _ hk,by rw[Z3];exact h.sz⟩
theorem Zew {a b:Nat}:decide ((a:Int)<(b:Int))=decide (a<b):=decide_eq_decide.2 (by omega)
theorem Zfe {a b:Nat}:decide ((a:Int)≤(b:Int))=decide (a≤b):=decide_eq_decide.2 (by omega)
theorem Zag {z:Int}{n:Nat} (h:z=(n:Int)) (hn:n<9223372036854775808):w64 z=(n:Int):=by rw[h,Zea (by omega) (by omega)]
section
variable (cmp:Int→Int→Option Int) (c:Int→Int→Int) (P:Int→Prop)
def Znj:Prop:=∀x y,P x→P y→cmp x y=some (c x y)
def ltC (x y:Int):Bool:=decide (c x y<0)
variable {cmp c P} (hc:Znj cmp c P)
include hc
theorem Zma (a:Nat):∀(j:Nat) (d:Array Int),OKA P d→j<d.size→lp (ZO (a:Int) cmp) ((j:Int),d.toList)=some (insInner (ltC c) a j d).toList∧OKA P (insInner (ltC c) a j d)∧(insInner (ltC c) a j d).size=d.size
 | 0,d,hd,hj=>by
  rw[Zb9]
  simp only[ZO,decide_eq_false (show ¬((a:Int)<((0:Nat):Int)) by omega),cond_false]
  exact⟨rfl,hd,rfl⟩
 | j+1,d,hd,hj=>by
  have hj':j<d.size:=by omega
  have hz:=hd.sz
  rw[Zb9]
  have e2:w64 (((j+1:Nat):Int)-1)=(j:Int):=Zag (by omega) (by omega)
  have e3:=hc _ _ (hd.el (j+1) hj) (hd.el j hj')
  unfold insInner
  by_cases h1:a<j+1
  ·by_cases h2:c d[j+1]! d[j]! < 0
   ·have ih:=Zma a j (swp d (j+1) j) (hd.swp hj hj') (by rw[Z3];omega)
    obtain⟨y,e5⟩:=ZhC (i:=j+1) (x:=d[j]!) hj'
    simp only[ZO,Zew,decide_eq_true h1,cond_true,Zbi hj,e2,Zbi hj',Option.bind_some,e3,decide_eq_true h2,Int.toNat_natCast,e5,Ze5]
    rw[if_pos (by simp[h1,h2,ltC])]
    rw[Z3] at ih
    exact ih
   ·simp only[ZO,Zew,decide_eq_true h1,cond_true,Zbi hj,e2,Zbi hj',Option.bind_some,e3,decide_eq_false h2,cond_false]
    rw[if_neg (by simp[h1,h2,ltC])]
    exact⟨rfl,hd,rfl⟩
  ·simp only[ZO,Zew,decide_eq_false h1,cond_false]
   rw[if_neg (by simp[h1])]
   exact⟨rfl,hd,rfl⟩
theorem Zmx (a b:Nat):∀(k i:Nat) (d:Array Int),i+k=max i b→b≤d.size→OKA P d→lp (Z9 (a:Int) (b:Int) cmp) ((i:Int),d.toList)=some (insOuter (ltC c) a b i d).toList∧OKA P (insOuter (ltC c) a b i d)∧(insOuter (ltC c) a b i d).size=d.size
 | 0,i,d,hi,hb,hd=>by
  rw[Zb9]
  unfold insOuter
  simp only[Z9,Zew,decide_eq_false (show ¬i<b by omega),cond_false]
  rw[if_neg (by omega)]
  exact⟨rfl,hd,rfl⟩
 | k+1,i,d,hi,hb,hd=>by
  have hib:i<b:=by omega
  have hz:=hd.sz
  obtain⟨h1,h2,h3⟩:=Zma hc a i d hd (by omega)
  have ih:=Zmx a b k (i+1) (insInner (ltC c) a i d) (by omega) (by rw[h3];exact hb) h2
  rw[Zb9]
  unfold insOuter
  simp only[Z9,Zew,decide_eq_true hib,cond_true,h1,Option.bind_some,Zae hib (by omega)]
  rw[if_pos hib,← h3]
  exact ih
theorem Zs1 (a b:Nat) (d:Array Int) (hb:b≤d.size) (ha:a≤b) (hd:OKA P d):ZM (a:Int) (b:Int) cmp d.toList=some (insertionSort (ltC c) d a b).toList∧OKA P (insertionSort (ltC c) d a b)∧(insertionSort (ltC c) d a b).size=d.size:=by
 have hz:=hd.sz
 obtain⟨h1,h2⟩:=Zmx hc a b (max (a+1) b-(a+1)) (a+1) d (by omega) hb hd
 unfold ZM insertionSort
 rw[Zag (n:=a+1) (by omega) (by omega),h1]
 exact⟨rfl,h2⟩
theorem Zr1 (hi first:Nat):∀(k root:Nat) (d:Array Int),hi-root≤k→root≤hi→first+hi≤d.size→OKA P d→∃r,lp (ZA (hi:Int) (first:Int) cmp) ((root:Int),d.toList)=some r∧(r = .inl (siftDown (ltC c) hi first root d).toList∨r = .inr (siftDown (ltC c) hi first root d).toList)∧OKA P (siftDown (ltC c) hi first root d)∧(siftDown (ltC c) hi first root d).size=d.size:=by
 intro k
 induction k with
 | zero=>
  intro root d hk hr hs hd
  have hz:=hd.sz
  rw[Zb9]
  unfold siftDown
  have e0:w64 (2*(root:Int))=((2*root:Nat):Int):=Zag (by omega) (by omega)
  have e1:w64 (((2*root:Nat):Int)+1)=((2*root+1:Nat):Int):=Zag (by omega) (by omega)
  simp only[ZA,e0,e1,Zfe,decide_eq_true (show hi≤2*root+1 by omega),cond_true]
  rw[dif_pos (by omega)]
  exact⟨_,rfl,.inl rfl,hd,rfl⟩
 | succ k ih=>
  intro root d hk hr hs hd
  have hz:=hd.sz
  rw[Zb9]
  unfold siftDown
  have e0:w64 (2*(root:Int))=((2*root:Nat):Int):=Zag (by omega) (by omega)
  have e1:w64 (((2*root:Nat):Int)+1)=((2*root+1:Nat):Int):=Zag (by omega) (by omega)
  by_cases h1:hi≤2*root+1
  ·simp only[ZA,e0,e1,Zfe,decide_eq_true h1,cond_true]
   rw[dif_pos (by omega)]
   exact⟨_,rfl,.inl rfl,hd,rfl⟩
  have e2:w64 (((2*root+1:Nat):Int)+1)=((2*root+2:Nat):Int):=Zag (by omega) (by omega)
  have er:w64 ((first:Int)+(root:Int))=((first+root:Nat):Int):=Zag (by omega) (by omega)
  have ef:w64 ((first:Int)+((2*root+1:Nat):Int))=((first+(2*root+1):Nat):Int):=Zag (by omega) (by omega)
  have ef1:w64 (((first+(2*root+1):Nat):Int)+1)=((first+(2*root+1)+1:Nat):Int):=Zag (by omega) (by omega)
  have ef2:w64 ((first:Int)+((2*root+2:Nat):Int))=((first+(2*root+2):Nat):Int):=Zag (by omega) (by omega)
  have ir:first+root<d.size:=by omega
  have i1:first+(2*root+1)<d.size:=by omega
  have cr1:=hc _ _ (hd.el _ ir) (hd.el _ i1)
  have one:∀{r:List Int⊕List Int} {A:Array Int},A=d→(r = .inl d.toList∨r = .inr d.toList)→∃q,some r=some q∧(q = .inl A.toList∨q = .inr A.toList)∧OKA P A∧A.size=d.size:=fun hA hr=>by
   subst hA
   exact⟨_,rfl,hr,hd,rfl⟩
  rw[dif_neg (by omega)]
  by_cases h2:2*root+2<hi
  ·have i2:first+(2*root+2)<d.size:=by omega
   have i2':first+(2*root+1)+1<d.size:=by omega
   have c12:=hc _ _ (hd.el _ i1) (hd.el _ i2')
   have cr2:=hc _ _ (hd.el _ ir) (hd.el _ i2)
   by_cases h3:c d[first+(2*root+1)]! d[first+(2*root+1)+1]! < 0
   ·rw[if_pos (by simp[h3,ltC];omega)]
    by_cases h4:c d[first+root]! d[first+(2*root+2)]! < 0
    ·obtain⟨y,em⟩:=ZhC (i:=first+root) (x:=d[first+(2*root+2)]!) i2
     simp only[ZA,e0,e1,e2,Zfe,Zew,decide_eq_false h1,decide_eq_true h2,cond_false,cond_true,ef,ef1,ef2,er,Zbi i1,Zbi i2',Zbi ir,Zbi i2,Option.bind_some,c12,cr2,decide_eq_true h3,decide_eq_true h4,Int.toNat_natCast,em,Ze5]
     rw[if_neg (by simp[h4,ltC]),dif_pos h2]
     have:=ih (2*root+2) (swp d (first+root) (first+(2*root+2))) (by omega) (by omega) (by rw[Z3];omega) (hd.swp ir i2)
     rw[Z3] at this
     exact this
    ·simp only[ZA,e0,e1,e2,Zfe,Zew,decide_eq_false h1,decide_eq_true h2,cond_false,cond_true,ef,ef1,ef2,er,Zbi i1,Zbi i2',Zbi ir,Zbi i2,Option.bind_some,c12,cr2,decide_eq_true h3,decide_eq_false h4]
     rw[if_pos (by simp[h4,ltC])]
     exact one rfl (.inr rfl)
   ·rw[if_neg (by simp[h3,ltC])]
    by_cases h4:c d[first+root]! d[first+(2*root+1)]! < 0
    ·obtain⟨y,em⟩:=ZhC (i:=first+root) (x:=d[first+(2*root+1)]!) i1
     simp only[ZA,e0,e1,e2,Zfe,Zew,decide_eq_false h1,decide_eq_true h2,cond_false,cond_true,ef,ef1,ef2,er,Zbi i1,Zbi i2',Zbi ir,Option.bind_some,c12,cr1,decide_eq_false h3,decide_eq_true h4,Int.toNat_natCast,em,Ze5]
     rw[if_neg (by simp[h4,ltC])]
     have:=ih (2*root+1) (swp d (first+root) (first+(2*root+1))) (by omega) (by omega) (by rw[Z3];omega) (hd.swp ir i1)
     rw[Z3] at this
     exact this
    ·simp only[ZA,e0,e1,e2,Zfe,Zew,decide_eq_false h1,decide_eq_true h2,cond_false,cond_true,ef,ef1,ef2,er,Zbi i1,Zbi i2',Zbi ir,Option.bind_some,c12,cr1,decide_eq_false h3,decide_eq_false h4]
     rw[if_pos (by simp[h4,ltC])]
     exact one rfl (.inr rfl)
  ·rw[if_neg (by simp;omega)]
   by_cases h4:c d[first+root]! d[first+(2*root+1)]! < 0
   ·obtain⟨y,em⟩:=ZhC (i:=first+root) (x:=d[first+(2*root+1)]!) i1
    simp only[ZA,e0,e1,e2,Zfe,Zew,decide_eq_false h1,decide_eq_false h2,cond_false,cond_true,ef,er,Zbi i1,Zbi ir,Option.bind_some,cr1,decide_eq_true h4,Int.toNat_natCast,em,Ze5]
    rw[if_neg (by simp[h4,ltC])]
    have:=ih (2*root+1) (swp d (first+root) (first+(2*root+1))) (by omega) (by omega) (by rw[Z3];omega) (hd.swp ir i1)
    rw[Z3] at this
    exact this
   ·simp only[ZA,e0,e1,e2,Zfe,Zew,decide_eq_false h1,decide_eq_false h2,cond_false,cond_true,ef,er,Zbi i1,Zbi ir,Option.bind_some,cr1,decide_eq_false h4]
    rw[if_pos (by simp[h4,ltC])]
    exact one rfl (.inr rfl)
theorem ZrX (hi first root:Nat) (d:Array Int) (hr:root≤hi) (hs:first+hi≤d.size) (hd:OKA P d):Zao (root:Int) (hi:Int) (first:Int) cmp d.toList=some (siftDown (ltC c) hi first root d).toList∧OKA P (siftDown (ltC c) hi first root d)∧(siftDown (ltC c) hi first root d).size=d.size:=by
 obtain⟨r,h1,h2,h3⟩:=Zr1 hc hi first _ root d (Nat.le_refl _) hr hs hd
 unfold Zao
 rw[h1]
 rcases h2 with rfl | rfl
 ·exact⟨rfl,h3⟩
 ·exact⟨rfl,h3⟩
theorem Zpe (hi first b:Nat) (hb:(b:Int)=first+hi):∀(k:Nat) (d:Array Int),k≤hi+1→first+hi≤d.size→OKA P d→lp (Zar (first:Int) (b:Int) cmp) ((k:Int)-1,d.toList)=some (heapBuild (ltC c) hi first k d).toList∧OKA P (heapBuild (ltC c) hi first k d)∧(heapBuild (ltC c) hi first k d).size=d.size
 | 0,d,hk,hs,hd=>by
  rw[Zb9]
  simp only[Zar,decide_eq_false (show ¬((0:Int)≤((0:Nat):Int)-1) by omega),cond_false]
  exact⟨rfl,hd,rfl⟩
 | k+1,d,hk,hs,hd=>by
  have hz:=hd.sz
  obtain⟨h1,h2,h3⟩:=ZrX hc hi first k d (by omega) hs hd
  have ih:=Zpe hi first b hb k (siftDown (ltC c) hi first k d) (by omega) (by rw[h3];exact hs) h2
  have e1:w64 ((b:Int)-(first:Int))=(hi:Int):=Zag (by omega) (by omega)
  have e2:(((k+1:Nat):Int)-1)=(k:Int):=by omega
  have e3:w64 ((k:Int)-1)=(k:Int)-1:=Zea (by omega) (by omega)
  rw[Zb9,e2]
  simp only[Zar,decide_eq_true (show(0:Int)≤(k:Int) by omega),cond_true,e1,h1,Option.bind_some,e3]
  rw[← h3]
  exact ih
theorem ZsY (first:Nat):∀(k:Nat) (d:Array Int),first+k≤d.size→OKA P d→lp (Zas (first:Int) cmp) ((k:Int)-1,d.toList)=some (heapPop (ltC c) first k d).toList∧OKA P (heapPop (ltC c) first k d)∧(heapPop (ltC c) first k d).size=d.size
 | 0,d,hs,hd=>by
  rw[Zb9]
  simp only[Zas,decide_eq_false (show ¬((0:Int)≤((0:Nat):Int)-1) by omega),cond_false]
  exact⟨rfl,hd,rfl⟩
 | k+1,d,hs,hd=>by
  have hz:=hd.sz
  have i1:first+k<d.size:=by omega
  have i2:first<d.size:=by omega
  obtain⟨h1,h2,h3⟩:=ZrX hc k first 0 (swp d first (first+k)) (by omega) (by rw[Z3];omega) (hd.swp i2 i1)
  rw[Z3] at h3
  have ih:=ZsY first k (siftDown (ltC c) k first 0 (swp d first (first+k))) (by rw[h3];omega) h2
  have e2:(((k+1:Nat):Int)-1)=(k:Int):=by omega
  have e3:w64 ((k:Int)-1)=(k:Int)-1:=Zea (by omega) (by omega)
  have e4:w64 ((first:Int)+(k:Int))=((first+k:Nat):Int):=Zag (by omega) (by omega)
  obtain⟨y,em⟩:=ZhC (i:=first) (x:=d[first+k]!) i1
  have h1':Zao 0 (k:Int) (first:Int) cmp (swp d first (first+k)).toList=_:=h1
  rw[Zb9,e2]
  simp only[Zas,decide_eq_true (show(0:Int)≤(k:Int) by omega),cond_true,e4,Zbi i1,Zbi i2,Option.bind_some,Int.toNat_natCast,em,Ze5,h1',e3]
  rw[← h3]
  exact ih
theorem ZtQ (a b:Nat) (d:Array Int) (ha:a≤b) (hb:b≤d.size) (hd:OKA P d):ZY (a:Int) (b:Int) cmp d.toList=some (heapSort (ltC c) d a b).toList∧OKA P (heapSort (ltC c) d a b)∧(heapSort (ltC c) d a b).size=d.size:=by
 have hz:=hd.sz
 have e1:w64 ((b:Int)-(a:Int))=((b-a:Nat):Int):=Zag (by omega) (by omega)
 have e2:w64 (((b-a:Nat):Int)-1)=((b-a:Nat):Int)-1:=Zea (by omega) (by omega)
 have e3:w64 (Int.tdiv (((b-a:Nat):Int)-1) 2)=(((b-a-1) / 2+1:Nat):Int)-1:=by
  by_cases h:b-a=0
  ·rw[h];rfl
  ·rw[Int.tdiv_eq_ediv_of_nonneg (by omega),Zea (by omega) (by omega)]
   omega
 obtain⟨h1,h2,h3⟩:=Zpe hc (b-a) a b (by omega) ((b-a-1) / 2+1) d (by omega) (by omega) hd
 obtain⟨h4,h5,h6⟩:=ZsY hc a (b-a) (heapBuild (ltC c) (b-a) a ((b-a-1) / 2+1) d) (by rw[h3];omega) h2
 unfold ZY heapSort
 simp only[e1,e2,e3,h1,h4,Option.bind_some]
 exact⟨trivial,h5,by rw[h6,h3]⟩
end
end Go.Proofs.YtnpidpcmpleiaaaDoor
namespace Go.Proofs.YtnpidpcmpleiaaaDoor
open Go Go.Proofs.YtnpidpcmpleiaaaDoorE Go.Sort
set_option linter.unusedVariables false
set_option linter.unusedSimpArgs false
theorem ZjS (Zav:Int→Option (Int⊕Int)) (p:Int→Bool) (d:Array Int) (j:Nat) (h:∀i:Nat,i≤j+2→Zav (i:Int)=some (bif decide (i≤j)&&p d[i]! then .inl ((i+1:Nat):Int) else .inr (i:Int))) :
  ∀(k i:Nat),j+2-i≤k→i≤j+2→lp Zav (i:Int)=some ((scanUp p d j i:Nat):Int)∧i≤scanUp p d j i∧scanUp p d j i≤max i (j+1):=by
 intro k
 induction k with
 | zero=>
  intro i hk hi
  rw[Zb9,h i hi]
  unfold scanUp
  rw[decide_eq_false (show ¬i≤j by omega)]
  simp[show ¬i≤j by omega]
  omega
 | succ k ih=>
  intro i hk hi
  rw[Zb9,h i hi]
  unfold scanUp
  by_cases h1:i≤j
  ·cases h2:p d[i]! with
   | true=>
    rw[decide_eq_true h1,if_pos (by simp[h1])]
    obtain⟨a1,a2,a3⟩:=ih (i+1) (by omega) (by omega)
    exact⟨a1,by omega,by omega⟩
   | false=>
    rw[decide_eq_true h1,if_neg (by simp)]
    exact⟨rfl,by omega,by omega⟩
  ·rw[decide_eq_false h1,if_neg (by simp[h1])]
   exact⟨rfl,by omega,by omega⟩
theorem Zgg (Zav:Int→Option (Int⊕Int)) (p:Int→Bool) (d:Array Int) (i:Nat) (hi:1≤i):∀(j:Nat),(∀k:Nat,k≤j→Zav (k:Int)=some (bif decide (i≤k)&&p d[k]! then .inl ((k:Int)-1) else .inr (k:Int)))→lp Zav (j:Int)=some ((scanDown p d i j:Nat):Int)∧scanDown p d i j≤j
 | 0,h=>by
  rw[Zb9,h 0 (Nat.le_refl _),decide_eq_false (show ¬i≤0 by omega)]
  exact⟨rfl,Nat.le_refl _⟩
 | j+1,h=>by
  rw[Zb9,h (j+1) (Nat.le_refl _)]
  unfold scanDown
  by_cases h1:i≤j+1
  ·cases h2:p d[j+1]! with
   | true=>
    rw[decide_eq_true h1,if_pos (by simp[h1])]
    have ih:=Zgg Zav p d i hi j (fun k hk=>h k (by omega))
    have e:(((j+1:Nat):Int)-1)=(j:Int):=by omega
    simp only[Bool.and_self,cond_true,e]
    exact⟨ih.1,by omega⟩
   | false=>
    rw[decide_eq_true h1,if_neg (by simp)]
    exact⟨rfl,Nat.le_refl _⟩
  ·rw[decide_eq_false h1,if_neg (by simp[h1])]
   exact⟨rfl,Nat.le_refl _⟩
section
variable {cmp:Int→Int→Option Int} {c:Int→Int→Int} {P:Int→Prop} (hc:Znj cmp c P)
include hc
theorem Zp7 (a:Nat):∀(k i j:Nat) (d:Array Int),j+3-i≤k→1≤i→i≤j+2→j<d.size→a<d.size→OKA P d →
  lp (ZaF (a:Int) cmp) ((i:Int),(j:Int),d.toList)=some (((partLoop (ltC c) a i j d).1:Int),(partLoop (ltC c) a i j d).2.toList)∧OKA P (partLoop (ltC c) a i j d).2∧(partLoop (ltC c) a i j d).2.size=d.size∧(partLoop (ltC c) a i j d).1≤j:=by
 intro k
 induction k with
 | zero=>
  intro i j d hk h1 h2 hj ha hd
  exact absurd hk (by omega)
 | succ k ih=>
  intro i j d hk h1 h2 hj ha hd
  have hz:=hd.sz
  obtain⟨u1,u2,u3⟩:=ZjS (Zal (a:Int) cmp ((i:Int),(j:Int),d.toList)) (fun x=>ltC c x d[a]!) d j (fun m hm=>by
    by_cases hmj:m≤j
    ·have im:m<d.size:=by omega
     simp only[Zal,Zfe,decide_eq_true hmj,cond_true,Zbi im,Zbi ha,Option.bind_some,hc _ _ (hd.el _ im) (hd.el _ ha),ltC,Bool.true_and,Zae (show m<j+1 by omega) (by omega)]
     cases decide (c d[m]! d[a]! < 0)<;>rfl
    ·simp only[Zal,Zfe,decide_eq_false hmj,cond_false,Bool.false_and]) (j+2-i) i (Nat.le_refl _) h2
  generalize hi2:scanUp (fun x=>ltC c x d[a]!) d j i=i2 at u1 u2 u3
  obtain⟨v1,v2⟩:=Zgg (Zah (a:Int) cmp ((i:Int),(j:Int),d.toList) (i2:Int)) (fun x=>!ltC c x d[a]!) d i2 (by omega) j (fun m hm=>by
    have im:m<d.size:=by omega
    by_cases hmi:i2≤m
    ·simp only[Zah,Zfe,decide_eq_true hmi,cond_true,Zbi im,Zbi ha,Option.bind_some,hc _ _ (hd.el _ im) (hd.el _ ha),ltC,Bool.true_and,Zea (show -9223372036854775808≤(m:Int)-1 by omega) (by omega)]
     cases decide (c d[m]! d[a]! < 0)<;>rfl
    ·simp only[Zah,Zfe,decide_eq_false hmi,cond_false,Bool.false_and])
  generalize hj2:scanDown (fun x=>!ltC c x d[a]!) d i2 j=j2 at v1 v2
  rw[Zb9]
  unfold partLoop
  simp only[ZaF,u1,v1,Option.bind_some,Zew,hi2,hj2]
  by_cases hij:j2<i2
  ·rw[decide_eq_true hij,if_pos hij]
   exact⟨rfl,hd,rfl,v2⟩
  ·have k1:i2<d.size:=by omega
   have k2:j2<d.size:=by omega
   obtain⟨y,em⟩:=ZhC (i:=i2) (x:=d[j2]!) k2
   have e1:w64 ((i2:Int)+1)=((i2+1:Nat):Int):=Zag (by omega) (by omega)
   have e2:w64 ((j2:Int)-1)=((j2-1:Nat):Int):=Zag (by omega) (by omega)
   rw[decide_eq_false hij,if_neg hij,dif_pos (by omega)]
   simp only[cond_false,Zbi k1,Zbi k2,Option.bind_some,Int.toNat_natCast,em,Ze5,e1,e2]
   obtain⟨q1,q2,q3,q4⟩:=ih (i2+1) (j2-1) (swp d i2 j2) (by omega) (by omega) (by omega) (by rw[Z3];omega) (by rw[Z3];exact ha) (hd.swp k1 k2)
   rw[Z3] at q3
   exact⟨q1,q2,q3,by omega⟩
theorem Zsu (a b pivot:Nat) (d:Array Int) (h1:a≤pivot) (h2:pivot<b) (hb:b≤d.size) (hd:OKA P d) :
  Zj (a:Int) (b:Int) (pivot:Int) cmp d.toList=some (bif (partition (ltC c) d a b pivot).2.1 then .inl (((partition (ltC c) d a b pivot).1:Int),(partition (ltC c) d a b pivot).2.2.toList) else .inr (((partition (ltC c) d a b pivot).1:Int),(partition (ltC c) d a b pivot).2.2.toList)) ∧
  OKA P (partition (ltC c) d a b pivot).2.2∧(partition (ltC c) d a b pivot).2.2.size=d.size:=by
 have hz:=hd.sz
 have ip:pivot<d.size:=by omega
 have ia:a<d.size:=by omega
 have hd1:=hd.swp ia ip
 have s1:=Z3 d a pivot
 obtain⟨y,em⟩:=ZhC (i:=a) (x:=d[pivot]!) ip
 have e1:w64 ((a:Int)+1)=((a+1:Nat):Int):=Zag (by omega) (by omega)
 have e2:w64 ((b:Int)-1)=((b-1:Nat):Int):=Zag (by omega) (by omega)
 have sw:=Ze5 d a pivot
 have ia1:a<(swp d a pivot).size:=by omega
 obtain⟨u1,u2,u3⟩:=ZjS (Zak (a:Int) (b:Int) (pivot:Int) d.toList cmp d[pivot]! d[a]!) (fun x=>ltC c x (swp d a pivot)[a]!) (swp d a pivot) (b-1) (fun m hm=>by
   by_cases hmj:m≤b-1
   ·have im:m<(swp d a pivot).size:=by omega
    simp only[Zak,e2,Zfe,decide_eq_true hmj,cond_true,Int.toNat_natCast,sw,Zbi im,Zbi ia1,Option.bind_some,hc _ _ (hd1.el _ im) (hd1.el _ ia1),ltC,Bool.true_and,Zae (show m<b by omega) (by omega)]
    cases decide (c (swp d a pivot)[m]! (swp d a pivot)[a]! < 0)<;>rfl
   ·simp only[Zak,e2,Zfe,decide_eq_false hmj,cond_false,Bool.false_and]) (b-1+2-(a+1)) (a+1) (Nat.le_refl _) (by omega)
 generalize hi2:scanUp (fun x=>ltC c x (swp d a pivot)[a]!) (swp d a pivot) (b-1) (a+1)=i2 at u1 u2 u3
 obtain⟨v1,v2⟩:=Zgg (Zaj (a:Int) (pivot:Int) d.toList cmp d[pivot]! d[a]! (i2:Int)) (fun x=>!ltC c x (swp d a pivot)[a]!) (swp d a pivot) i2 (by omega) (b-1) (fun m hm=>by
   have im:m<(swp d a pivot).size:=by omega
   by_cases hmi:i2≤m
   ·simp only[Zaj,Zfe,decide_eq_true hmi,cond_true,Int.toNat_natCast,sw,Zbi im,Zbi ia1,Option.bind_some,hc _ _ (hd1.el _ im) (hd1.el _ ia1),ltC,Bool.true_and,Zea (show -9223372036854775808≤(m:Int)-1 by omega) (by omega)]
    cases decide (c (swp d a pivot)[m]! (swp d a pivot)[a]! < 0)<;>rfl
   ·simp only[Zaj,Zfe,decide_eq_false hmi,cond_false,Bool.false_and])
 generalize hj2:scanDown (fun x=>!ltC c x (swp d a pivot)[a]!) (swp d a pivot) i2 (b-1)=j2 at v1 v2
 unfold Zj partition
 simp only[Zbi ip,Zbi ia,Option.bind_some,Int.toNat_natCast,em,e1,e2,u1,v1,Zew,sw,hi2,hj2]
 have kj:j2<(swp d a pivot).size:=by omega
 by_cases hij:j2<i2
 ·obtain⟨y2,em2⟩:=ZhC (i:=j2) (x:=(swp d a pivot)[a]!) ia1
  rw[decide_eq_true hij,if_pos hij]
  simp only[cond_true,Zbi ia1,Zbi kj,Option.bind_some,Int.toNat_natCast,em2,Ze5]
  exact⟨trivial,hd1.swp kj ia1,by rw[Z3,s1]⟩
 ·have ki:i2<(swp d a pivot).size:=by omega
  obtain⟨y2,em2⟩:=ZhC (i:=i2) (x:=(swp d a pivot)[j2]!) kj
  have e3:w64 ((i2:Int)+1)=((i2+1:Nat):Int):=Zag (by omega) (by omega)
  have e4:w64 ((j2:Int)-1)=((j2-1:Nat):Int):=Zag (by omega) (by omega)
  obtain⟨q1,q2,q3,q4⟩:=Zp7 hc a (j2-1+3-(i2+1)) (i2+1) (j2-1) (swp (swp d a pivot) i2 j2) (by omega) (by omega) (by omega) (by rw[Z3];omega) (by rw[Z3];exact ia1) (hd1.swp ki kj)
  rw[Z3,s1] at q3
  rw[decide_eq_false hij,if_neg hij]
  simp only[cond_false,Zbi ki,Zbi kj,Option.bind_some,Int.toNat_natCast,em2,Ze5,e3,e4,q1]
  generalize partLoop (ltC c) a (i2+1) (j2-1) (swp (swp d a pivot) i2 j2)=r at *
  have kr:r.1<r.2.size:=by omega
  have kr2:a<r.2.size:=by omega
  obtain⟨y3,em3⟩:=ZhC (i:=r.1) (x:=r.2[a]!) kr2
  simp only[Zbi kr,Zbi kr2,Option.bind_some,em3,Ze5]
  exact⟨trivial,q2.swp kr kr2,by rw[Z3,q3]⟩
theorem Zob (a:Nat):∀(k i j:Nat) (d:Array Int),j+3-i≤k→1≤i→i≤j+2→j<d.size→a<d.size→OKA P d →
  lp (Zai (a:Int) cmp) ((i:Int),(j:Int),d.toList)=some (((partEqLoop (ltC c) a i j d).1:Int),(partEqLoop (ltC c) a i j d).2.toList)∧OKA P (partEqLoop (ltC c) a i j d).2∧(partEqLoop (ltC c) a i j d).2.size=d.size∧i≤(partEqLoop (ltC c) a i j d).1∧(partEqLoop (ltC c) a i j d).1≤max i (j+1):=by
 intro k
 induction k with
 | zero=>
  intro i j d hk h1 h2 hj ha hd
  exact absurd hk (by omega)
 | succ k ih=>
  intro i j d hk h1 h2 hj ha hd
  have hz:=hd.sz
  obtain⟨u1,u2,u3⟩:=ZjS (Z4 (a:Int) cmp ((i:Int),(j:Int),d.toList)) (fun x=>!ltC c d[a]! x) d j (fun m hm=>by
    by_cases hmj:m≤j
    ·have im:m<d.size:=by omega
     simp only[Z4,Zfe,decide_eq_true hmj,cond_true,Zbi im,Zbi ha,Option.bind_some,hc _ _ (hd.el _ ha) (hd.el _ im),ltC,Bool.true_and,Zae (show m<j+1 by omega) (by omega)]
     cases decide (c d[a]! d[m]! < 0)<;>rfl
    ·simp only[Z4,Zfe,decide_eq_false hmj,cond_false,Bool.false_and]) (j+2-i) i (Nat.le_refl _) h2
  generalize hi2:scanUp (fun x=>!ltC c d[a]! x) d j i=i2 at u1 u2 u3
  obtain⟨v1,v2⟩:=Zgg (Z5 (a:Int) cmp ((i:Int),(j:Int),d.toList) (i2:Int)) (fun x=>ltC c d[a]! x) d i2 (by omega) j (fun m hm=>by
    have im:m<d.size:=by omega
    by_cases hmi:i2≤m
    ·simp only[Z5,Zfe,decide_eq_true hmi,cond_true,Zbi im,Zbi ha,Option.bind_some,hc _ _ (hd.el _ ha) (hd.el _ im),ltC,Bool.true_and,Zea (show -9223372036854775808≤(m:Int)-1 by omega) (by omega)]
     cases decide (c d[a]! d[m]! < 0)<;>rfl
    ·simp only[Z5,Zfe,decide_eq_false hmi,cond_false,Bool.false_and])
  generalize hj2:scanDown (fun x=>ltC c d[a]! x) d i2 j=j2 at v1 v2
  rw[Zb9]
  unfold partEqLoop
  simp only[Zai,u1,v1,Option.bind_some,Zew,hi2,hj2]
  by_cases hij:j2<i2
  ·rw[decide_eq_true hij,if_pos hij]
   exact⟨rfl,hd,rfl,u2,u3⟩
  ·have k1:i2<d.size:=by omega
   have k2:j2<d.size:=by omega
   obtain⟨y,em⟩:=ZhC (i:=i2) (x:=d[j2]!) k2
   have e1:w64 ((i2:Int)+1)=((i2+1:Nat):Int):=Zag (by omega) (by omega)
   have e2:w64 ((j2:Int)-1)=((j2-1:Nat):Int):=Zag (by omega) (by omega)
   rw[decide_eq_false hij,if_neg hij,dif_pos (by omega)]
   simp only[cond_false,Zbi k1,Zbi k2,Option.bind_some,Int.toNat_natCast,em,Ze5,e1,e2]
   obtain⟨q1,q2,q3,q4,q5⟩:=ih (i2+1) (j2-1) (swp d i2 j2) (by omega) (by omega) (by omega) (by rw[Z3];omega) (by rw[Z3];exact ha) (hd.swp k1 k2)
   rw[Z3] at q3
   exact⟨q1,q2,q3,by omega,by omega⟩
theorem ZrG (a b pivot:Nat) (d:Array Int) (h1:a≤pivot) (h2:pivot<b) (hb:b≤d.size) (hd:OKA P d) :
  Zv (a:Int) (b:Int) (pivot:Int) cmp d.toList=some (((partitionEqual (ltC c) d a b pivot).1:Int),(partitionEqual (ltC c) d a b pivot).2.toList)∧OKA P (partitionEqual (ltC c) d a b pivot).2∧(partitionEqual (ltC c) d a b pivot).2.size=d.size∧a<(partitionEqual (ltC c) d a b pivot).1∧(partitionEqual (ltC c) d a b pivot).1≤b:=by
 have hz:=hd.sz
 have ip:pivot<d.size:=by omega
 have ia:a<d.size:=by omega
 obtain⟨y,em⟩:=ZhC (i:=a) (x:=d[pivot]!) ip
 have e1:w64 ((a:Int)+1)=((a+1:Nat):Int):=Zag (by omega) (by omega)
 have e2:w64 ((b:Int)-1)=((b-1:Nat):Int):=Zag (by omega) (by omega)
 obtain⟨q1,q2,q3,q4,q5⟩:=Zob hc a (b-1+3-(a+1)) (a+1) (b-1) (swp d a pivot) (by omega) (by omega) (by omega) (by rw[Z3];omega) (by rw[Z3];omega) (hd.swp ia ip)
 rw[Z3] at q3
 unfold Zv partitionEqual
 simp only[Zbi ip,Zbi ia,Option.bind_some,Int.toNat_natCast,em,e1,e2,Ze5,q1]
 exact⟨trivial,q2,q3,by omega,by omega⟩
end
end Go.Proofs.YtnpidpcmpleiaaaDoor
