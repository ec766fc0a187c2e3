/- TeamRuns: part 5 of 6 of the proof. -/
import Derived.Test.YtgcfmiajkbbmeaaGreatZTeamRunsd
set_option maxRecDepth 100000
set_option maxHeartbeats 40000000
set_option linter.unusedVariables false
set_option linter.unusedSimpArgs false
namespace Go.Proofs.YtgcfmiajkbbmeaaGreat
open Go Go.Proofs.YtgcfmiajkbbmeaaGreatE
open Go.IntKind (u64 i64 u32 i32 u8)
open Nat (le_trans zero_le zero_add mod_lt mod_eq_of_lt)
open Int (toNat_of_nonneg le_refl toNat_natCast)
open List (length_nil length_take length_drop length_map length_set length_cons length_replicate length_singleton getElem_mem mem_cons mem_cons_self mem_cons_of_mem drop_zero append_nil mem_singleton any_eq_true sum_cons set_set)
section
theorem ZjC:∀(l m:List Int),l.Nodup->(∀x∈l,x∈m)->l.length<=m.length
 | [],_,_,_=>zero_le _
 | x :: l,m,hn,hs=>by
  have hn:=List.nodup_cons.1 hn
  have hx:x∈m:=hs x (by simp)
  have h1:=ZjC l (m.erase x) hn.2 fun y hy=>(List.mem_erase_of_ne (fun e:y=x=>hn.1 (e ▸ hy))).2 (hs y (by simp[hy]))
  rw[List.length_erase_of_mem hx] at h1
  have:=List.length_pos_of_mem hx
  rw[length_cons]
  omega
def Zmf (E:List Zv) (left:List Int):Nat:=(((List.range left.length).filter fun i:Nat=>ZiH E left (i:Int)).map fun i:Nat=>(i:Int)).length
theorem ZA0 (E:List Zv) (left:List Int):Zmf E left<=left.length:=by
 unfold Zmf
 rw[length_map]
 exact le_trans (List.length_filter_le _ _) (by rw[List.length_range];exact Nat.le_refl _)
theorem Zv8 {E:List Zv}{left left':List Int} (hl:left'.length=left.length) (hm:∀n,isN left n->ZlB E left n->ZlB E left' n) {S:List Int} (hS:S.Nodup) (hin:∀s∈S,isN left s/\ZlB E left' s/\¬ZlB E left s):Zmf E left+S.length<=Zmf E left':=by
 unfold Zmf
 rw[<- lA]
 refine ZjC _ _ ?_ fun x hx=>?_
 ·rw[List.nodup_append]
  refine⟨List.Pairwise.map _ (fun a b (h:a≠b)=>by omega) (List.Pairwise.filter _ List.nodup_range),hS,fun a ha b hb e=>?_⟩
  subst e
  obtain⟨h1,h2,h3⟩:=Zf3.1 ha
  rw[toNat_of_nonneg h1] at h3
  exact(hin a hb).2.2 (Zcs.1 h3)
 ·rw[hl]
  rcases List.mem_append.1 hx with hx | hx
  ·obtain⟨h1,h2,h3⟩:=Zf3.1 hx
   refine Zf3.2 ⟨h1,h2,?_⟩
   rw[toNat_of_nonneg h1] at h3 ⊢
   exact Zcs.2 (hm x ⟨h1,h2⟩ (Zcs.1 h3))
  ·obtain⟨h1,h2,_⟩:=hin x hx
   exact Zf3.2 ⟨h1.1,h1.2,by rw[toNat_of_nonneg h1.1];exact Zcs.2 h2⟩
theorem ZDS {g:Zj} (hc:ZM g=0) (n:Int):∃r,ZfH g n=some r/\(∀z,z∈r↔∃e∈g.edges,e.src=n/\e.dst=z)/\r.length<=256:=by
 obtain⟨h,_⟩:=ZT hc
 have hel:=h.el
 have key:=ZBS g.edges (by omega) (fun e:Zv=>e.src==n) (fun _ e=>e.dst) (Zc0 g fun z0=>Zcg z0 n) (fun i x s hi hx=>by
  simp only[Zc0,ZaU hi,cT,Zn hx,bS,Zcg,ZA hi h.short.e]
  cases x.src==n<;>rfl) (fun s=>by simp only[Zc0,ZaY,cF]) [] (by simp)
 rw[List.nil_append] at key
 have hlen:(sel (fun e:Zv=>e.src==n) (fun _ e=>e.dst) 0 g.edges).length<=256:=le_trans (Ztj _ _ _ _) hel
 obtain⟨r,h1,h2,_⟩:=Zph _ (le_trans hlen (by omega))
 refine⟨r,?_,fun z=>?_,by rw[h2.length_eq];exact hlen⟩
 ·unfold ZfH
  rw[ZeC g h.short,hc,bS,show((0:Int) != 0)=false from rfl,cF]
  unfold Zmh
  simp only[key,bS,h1]
 ·rw[h2.mem_iff,Zt7]
  constructor
  ·rintro ⟨j,x,hx,h3,h4⟩
   exact⟨x,mG hx,by simpa using h3,h4.symm⟩
  ·rintro ⟨e,he,h3,h4⟩
   obtain⟨j,hj⟩:=List.getElem?_of_mem he
   exact⟨j,e,hj,by simpa using h3,h4.symm⟩
section
variable {g:Zj} {m:Nat} {left row:List Int}
theorem Zvz {fs:List Int}{ds:List Za}{ts:List Zb} (G:GangIn g m left row ds ts fs) (hw:∀c,¬ZdA m (vw row ds ts fs) c):(∀i,i<m->(vw row ds ts fs).a i=0)/\(-1∈row->∀n,¬Rdy g.edges left row n):=by
 have a0:∀i,i<m->(vw row ds ts fs).a i=0:=fun i hi=>Classical.byContradiction fun h=>by
  by_cases hO:(vw row ds ts fs).O i = -1
  ·exact hw i ⟨hi,hO,.inr h⟩
  ·exact h ((G.inv.pos i hi).busy hO).1
 refine⟨a0,fun hi n hr=>?_⟩
 obtain⟨c,hc⟩:=List.getElem?_of_mem hi
 have hcm:c<m:=by rw[<- G.ol];exact(gQ hc).1
 obtain⟨j,k,⟨hj,h1,h2⟩,_⟩:=G.inv.items.all n ⟨hr.1,hr.2.1,hr.2.2.2⟩ fun i him h=>by
  have hx:=gE (show i<row.length by rw[G.ol];exact him)
  rw[Zns row ds ts fs hx] at h
  exact hr.2.2.1 (h ▸ getElem_mem _)
 have hja:=a0 j hj
 have e1:(vw row ds ts fs).lo j=(vw row ds ts fs).T j:=by unfold Zh.lo;rw[if_neg (by omega)]
 have e2:(vw row ds ts fs).be j=(vw row ds ts fs).B j:=by unfold Zh.be;rw[if_neg (by omega)]
 exact hw c ⟨hcm,Zns row ds ts fs hc,.inl ⟨j,hj,by omega⟩⟩
theorem Zrp (c:ZaB g left row) (hall : -1∈row->∀n,¬Rdy g.edges left row n):Zfi g.edges left row row:=
 ⟨rfl,fun c n h _=>h,fun c n h1 h2=>by rw[h1] at h2;exact .inl (Option.some.inj h2).symm,c.ok.one,hall⟩
def ZyW (g:Zj) (left row:List Int) (s:Int):Prop:=Rdy g.edges (ZJ left row) (ZH left row) s/\¬ZlB g.edges left s
def was (g:Zj) (left row:List Int) (n:Int):Prop:=Rdy g.edges left row n∨(n∈ZH left row/\n ≠ -1)
structure TI (g:Zj) (m:Nat) (left row:List Int) (ts:List Zb) (fs:List Int) (ds:List Za) (pushed:List Int):Prop where
 pg:PG m (fun x=>was g left row x∨x∈pushed) (ZH left row) ds ts fs
 nod:pushed.Nodup
 new:∀s∈pushed,ZyW g left row s
 cnt:∀c,c<m->(vw (ZH left row) ds ts fs).B c<=(Zmf g.edges left+pushed.length:Nat)
theorem ZFH {s:Int} (h:ZyW g left row s):isN left s:=⟨h.1.1.1,by have:=h.1.1.2;rwa [ZbV] at this⟩
theorem ZrR {n:Int} (h:n∈ZH left row):n = -1∨(n∈row/\lf (ZJ left row) n≠0):=by
 rw[Zcr] at h
 obtain⟨k,hk,rfl⟩:=List.mem_map.1 h
 unfold Zeu
 by_cases h1:k = -1
 ·rw[if_pos h1];exact .inl rfl
 ·rw[if_neg h1]
  by_cases h2:lf (ZJ left row) k=0
  ·rw[if_pos h2];exact .inl rfl
  ·rw[if_neg h2];exact .inr ⟨hk,h2⟩
theorem ZyS {n:Int} (h:n∈row) (h1:n ≠ -1) (h2:lf (ZJ left row) n≠0):n∈ZH left row:=by
 rw[Zcr]
 refine List.mem_map.2 ⟨n,h,?_⟩
 unfold Zeu
 rw[if_neg h1,if_neg h2]
theorem TI.more (hG:Zbe g) (c:ZaB g left row) (hall : -1∈row->∀n,¬Rdy g.edges left row n) {S:List Int} (hS:S.Nodup) (hn:∀s∈S,ZyW g left row s):Zmf g.edges left+S.length<=Zmf g.edges (ZJ left row):=
 Zv8 (ZbV _ _) (fun n _ hf=>(Zrp c hall).free (by rw[c.ll];exact ZgZ hG) c.ok hf) hS fun s hs=>⟨ZFH (hn s hs),(hn s hs).1.2.2.2,(hn s hs).2⟩
theorem Zu8 {s:Int} (c:ZaB g left row) (h:ZyW g left row s):¬was g left row s:=by
 rintro (h1 | ⟨h1,_⟩)
 ·exact h.2 h1.2.2.2
 ·exact h.1.2.2.1 h1
theorem Zzd (hc:ZM g=0) (cr:ZaB g left row) (hall : -1∈row->∀n,¬Rdy g.edges left row n) (hm:row.length=m) {ts:List Zb}{fs:List Int}{c:Nat} (hcm:c<m) {R:List Int} (hR:∀z,z∈R↔Rdy g.edges (ZJ left row) (ZH left row) z) (hRl:R.length<=64)
  {l:List Int} (hl:l.length<=256) (hnew:∀s∈l,Rdy g.edges (ZJ left row) (ZH left row) s->¬ZlB g.edges left s) {D0:List Za} {p0:List Int} :
  ∀(k i:Nat) (ds:List Za) (pushed:List Int),i+k=l.length->TI g m left row ts fs ds pushed ->
   ∃ds' pushed',lp (Zaa R ((c:Int),D0,p0) l) ((i:Int),ds,pushed)=some (.inr (ds',pushed'))/\TI g m left row ts fs ds' pushed'/\(∀s∈pushed,s∈pushed')/\∀s∈l.drop i,Rdy g.edges (ZJ left row) (ZH left row) s->s∈pushed':=by
 obtain⟨hG,hA⟩:=ZT hc
 have h8:m<=8:=by rw[<- hm];exact cr.o8
 have h64:(ZJ left row).length<=64:=by rw[ZbV,cr.ll];exact hG.wl
 intro k
 induction k with
 | zero=>
  intro i ds pushed hi T
  have hi:i=l.length:=by omega
  subst hi
  refine⟨ds,pushed,?_,T,fun _ h=>h,fun s hs=>by rw[List.drop_length] at hs;cases hs⟩
  rw[Zaj]
  simp only[Zaa,ZaY,cF]
 | succ k ih=>
  intro i ds pushed hi T
  have hi':i<l.length:=by omega
  have hx:=gE hi'
  generalize hs:l[i]=s at hx
  have hdrop:l.drop i=s :: l.drop (i+1):=by rw[<- hs];exact List.drop_eq_getElem_cons hi'
  have hpl:=TI.more hG cr hall T.nod T.new
  have hfl:=ZA0 g.edges (ZJ left row)
  have hpl64:pushed.length<=64:=by omega
  rw[Zaj]
  simp only[Zaa,ZaU hi',cT,Zn hx,bS,Zhd R s (by omega),ZhQ,ZA hi' (show l.length<9223372036854775808 by omega)]
  by_cases h1:s∈R
  ·rw[dT h1,cT,Zhd pushed s (by omega),bS,ZhQ]
   have hr:=(hR s).1 h1
   by_cases h2:s∈pushed
   ·rw[dT h2,cT]
    obtain⟨ds',p',q1,q2,q3,q4⟩:=ih (i+1) ds pushed (by omega) T
    refine⟨ds',p',q1,q2,q3,fun z hz hzr=>?_⟩
    rw[hdrop] at hz
    rcases List.mem_cons.1 hz with rfl | hz
    ·exact q3 z h2
    ·exact q4 z hz hzr
   ·rw[dF h2,cF]
    have hN:ZyW g left row s:=⟨hr,hnew s (by rw[<- hs];exact getElem_mem _) hr⟩
    have hnod:(pushed++[s]).Nodup:=by
     rw[List.nodup_append]
     refine⟨T.nod,by simp,fun a ha b hb e=>?_⟩
     rw[mem_singleton] at hb
     exact h2 (hb ▸ e ▸ ha)
    have hnn:∀z∈pushed++[s],ZyW g left row z:=fun z hz=>by
     rcases List.mem_append.1 hz with hz | hz
     ·exact T.new z hz
     ·rw[mem_singleton] at hz;rw[hz];exact hN
    have hml:=TI.more hG cr hall hnod hnn
    rw[lA,length_singleton] at hml
    have hcnt:=T.cnt c hcm
    obtain⟨ds1,e1,e2,e3⟩:=ZBB (n:=s) T.pg hcm h8 (by omega) (by
     rintro (h3 | h3)
     ·exact Zu8 cr hN h3
     ·exact h2 h3) (fun j hj he=>by
     have hol:(ZH left row).length=m:=by rw[Zcr,length_map,hm]
     have hxj:=gE (show j<(ZH left row).length by omega)
     rw[Zns _ ds ts fs hxj] at he
     exact hr.2.2.1 (he ▸ getElem_mem _))
    have T1:TI g m left row ts fs ds1 (pushed++[s]):=by
     refine⟨⟨e2.dl,e2.ring,e2.inv.congr fun n=>?_,e2.a0⟩,hnod,hnn,fun j hj=>?_⟩
     ·rw[List.mem_append,mem_singleton,or_assoc]
     ·rw[e3 j,lA,length_singleton]
      have:=T.cnt j hj
      split<;>omega
    obtain⟨ds',p',q1,q2,q3,q4⟩:=ih (i+1) ds1 (pushed++[s]) (by omega) T1
    refine⟨ds',p',?_,q2,fun z hz=>q3 z (by simp[hz]),fun z hz hzr=>?_⟩
    ·rw[e1,bS,Zar (show pushed.length+1<=1073741824 by omega)]
     exact q1
    ·rw[hdrop] at hz
     rcases List.mem_cons.1 hz with rfl | hz
     ·exact q3 z (by simp)
     ·exact q4 z hz hzr
  ·rw[dF h1,cF]
   obtain⟨ds',p',q1,q2,q3,q4⟩:=ih (i+1) ds pushed (by omega) T
   refine⟨ds',p',q1,q2,q3,fun z hz hzr=>?_⟩
   rw[hdrop] at hz
   rcases List.mem_cons.1 hz with rfl | hz
   ·exact absurd ((hR z).2 hzr) h1
   ·exact q4 z hz hzr
structure Zoj (g:Zj) (m:Nat) (left on:List Int) (ds:List Za) (ts:List Zb) (fs:List Int):Prop extends GangIn g m left on ds ts fs where
 bnd:∀c,c<m->(vw on ds ts fs).be c<=(Zmf g.edges left:Nat)
theorem ZqZ (c:ZaB g left row) {z:Int}:z∈ZX g.edges left row↔Rdy g.edges left row z:=ZkH fun x hx=>(c.ok.rng x hx).1
theorem ZeA (E:List Zv) (left on:List Int):(ZX E left on).length<=left.length:=by
 unfold ZX
 rw[length_map]
 exact le_trans (List.length_filter_le _ _) (by rw[List.length_range];exact Nat.le_refl _)
theorem ZwY (hc:ZM g=0) {ts:List Zb}{fs:List Int}{ds:List Za} (G:Zoj g m left row ds ts fs) (hw:∀c,¬ZdA m (vw row ds ts fs) c) :
  ∃ds' done,ZbT g.work g.edges row left ds=some (.inr (.inr (ds',done,ZH left row,ZJ left row)))/\Zoj g m (ZJ left row) (ZH left row) ds' ts fs/\∀z,z∈done↔z∈row/\z ≠ -1/\lf (ZJ left row) z=0:=by
 obtain⟨hG,hA⟩:=ZT hc
 have cr:=G.crew
 obtain⟨a0,hall⟩:=Zvz G.toGangIn hw
 have F:=Zrp cr hall
 have hE:ZfV g.edges left.length:=by rw[cr.ll];exact ZgZ hG
 have h8:m<=8:=by rw[<- G.ol];exact cr.o8
 obtain⟨done,t1,t2⟩:=ZnJ hc cr
 have hol:(ZH left row).length=m:=by rw[Zcr,length_map,G.ol]
 have cr':ZaB g (ZJ left row) (ZH left row):=⟨by rw[ZbV];exact cr.ll,by rw[hol,<- G.ol];exact cr.o1,by rw[hol];exact h8,F.next hE cr.ok⟩
 have wO:∀i,i<m->(vw (ZH left row) ds ts fs).O i=Zeu left row ((vw row ds ts fs).O i):=fun i hi=>by
  have hx:=gE (show i<row.length by rw[G.ol];exact hi)
  rw[Zns row ds ts fs hx]
  refine Zns _ ds ts fs ?_
  rw[Zcr,List.getElem?_map,hx];rfl
 have T0:TI g m left row ts fs ds []:=by
  refine⟨⟨G.dl,G.ring,⟨fun i hi=>?_,⟨fun i k hk=>?_,fun i k i' k' h1 h2 h3=>G.inv.items.inj i k i' k' h1 h2 h3,fun n hn ho=>?_⟩⟩,a0⟩,by simp,fun s hs=>(by cases hs),fun c hcm=>?_⟩
  ·have p:=G.inv.pos i hi
   have hb:(vw row ds ts fs).be i=(vw row ds ts fs).B i:=by unfold Zh.be;rw[if_neg (by have:=a0 i hi;omega)]
   have p1:=p.TB
   have p2:=p.B64
   rw[hb] at p1 p2
   refine Pos.still (W:=vw (ZH left row) ds ts fs) (a0 i hi) p.F (fun h=>?_) p.T0 p1 p2 p.rx p.ry
   rw[wO i hi] at h
   refine(p.busy fun h2=>?_).2
   rw[h2] at h
   exact h rfl
  ·obtain⟨h1,h2⟩:=G.inv.items.rdy i k hk
   have hnr:(vw row ds ts fs).R i k∉row:=fun hm=>by
    obtain⟨j,hj⟩:=List.getElem?_of_mem hm
    exact h2 j (by rw[<- G.ol];exact(gQ hj).1) (Zns row ds ts fs hj)
   refine⟨.inl (.inl ⟨h1.1,h1.2.1,hnr,h1.2.2⟩),fun j hj he=>?_⟩
   rw[wO j hj] at he
   have hjr:j<row.length:=by rw[G.ol];exact hj
   have hx:=gE hjr
   rw[Zns row ds ts fs hx] at he
   have hm:(vw row ds ts fs).R i k∈ZH left row:=by
    rw[Zcr]
    exact List.mem_map.2 ⟨row[j],getElem_mem _,he⟩
   rcases ZrR hm with h | ⟨h,_⟩
   ·exact ZkB _ h1 h
   ·exact hnr h
  ·have hno:n∉ZH left row:=fun hm=>by
    obtain⟨j,hj⟩:=List.getElem?_of_mem hm
    exact ho j (by rw[<- hol];exact(gQ hj).1) (Zns _ ds ts fs hj)
   rcases hn with(hn | hn) | hn
   ·exact G.inv.items.all n ⟨hn.1,hn.2.1,hn.2.2.2⟩ fun j hj he=>by
     have hx:=gE (show j<row.length by rw[G.ol];exact hj)
     rw[Zns row ds ts fs hx] at he
     exact hn.2.2.1 (he ▸ getElem_mem _)
   ·exact absurd hn.1 hno
   ·cases hn
  ·have hb:(vw row ds ts fs).be c=(vw row ds ts fs).B c:=by unfold Zh.be;rw[if_neg (by have:=a0 c hcm;omega)]
   have:=G.bnd c hcm
   rw[hb] at this
   exact this
 have hR:∀z,z∈ZX g.edges (ZJ left row) (ZH left row)↔Rdy g.edges (ZJ left row) (ZH left row) z:=fun z=>ZqZ cr'
 have hRl:(ZX g.edges (ZJ left row) (ZH left row)).length<=64:=le_trans (ZeA _ _ _) (by rw[ZbV,cr.ll];exact hG.wl)
 have loop:∀(k i:Nat) (ds:List Za) (pushed:List Int),i+k=row.length->TI g m left row ts fs ds pushed ->
   ∃ds' pushed',lp (Zao g.work g.edges row (ZH left row,ZJ left row,done) (ZX g.edges (ZJ left row) (ZH left row))) ((i:Int),ds,pushed)=some (.inr ds')/\TI g m left row ts fs ds' pushed'/\(∀s∈pushed,s∈pushed') /\
    ∀n∈row.drop i,n ≠ -1->lf (ZJ left row) n=0->∀e∈g.edges,e.src=n->Rdy g.edges (ZJ left row) (ZH left row) e.dst->e.dst∈pushed':=by
  intro k
  induction k with
  | zero=>
   intro i ds pushed hi T
   have hi:i=row.length:=by omega
   subst hi
   refine⟨ds,pushed,?_,T,fun _ h=>h,fun n hn=>by rw[List.drop_length] at hn;cases hn⟩
   rw[Zaj]
   simp only[Zao,ZaY,cF]
  | succ k ih=>
   intro i ds pushed hi T
   have hi':i<row.length:=by omega
   have hx:=gE hi'
   generalize hn:row[i]=n at hx
   have hdrop:row.drop i=n :: row.drop (i+1):=by rw[<- hn];exact List.drop_eq_getElem_cons hi'
   have hy:(ZH left row)[i]? = some (Zeu left row n):=by rw[Zcr,List.getElem?_map,hx];rfl
   have hmem:n∈row:=by rw[<- hn];exact getElem_mem _
   rw[Zaj]
   simp only[Zao,ZaU hi',cT,Zn hx,Zn hy,bS,ZA hi' (show row.length<9223372036854775808 by have:=G.ol;omega)]
   by_cases h1:n = -1
   ·rw[show(n == -1)=true from beq_iff_eq.2 h1,cT]
    obtain⟨ds',p',q1,q2,q3,q4⟩:=ih (i+1) ds pushed (by omega) T
    refine⟨ds',p',q1,q2,q3,fun z hz hz1=>?_⟩
    rw[hdrop] at hz
    rcases List.mem_cons.1 hz with rfl | hz
    ·exact absurd h1 hz1
    ·exact q4 z hz hz1
   ·rw[show(n == -1)=false from beq_eq_false_iff_ne.2 h1,cF]
    by_cases h2:lf (ZJ left row) n=0
    ·have e1:Zeu left row n = -1:=by unfold Zeu;rw[if_neg h1,if_pos h2]
     rw[e1,show((-1:Int) != -1)=false from rfl,cF]
     obtain⟨r,s1,s2,s3⟩:=ZDS hc n
     rw[s1,bS]
     obtain⟨ds1,p1,q1,q2,q3,q4⟩:=Zzd (c:=i) hc cr hall G.ol (by rw[<- G.ol];exact hi') hR hRl s3 (D0:=ds) (p0:=pushed) (fun s hs hr hf=>by
      obtain⟨e,he,he1,he2⟩:=(s2 s).1 hs
      have h0:=hf e he he2
      rw[he1] at h0
      rcases cr.ok.run n hmem with h3 | ⟨_,h3,_⟩
      ·exact h1 h3
      ·omega) r.length 0 ds pushed (by omega) T
     rw[show(lp (Zaa (ZX g.edges (ZJ left row) (ZH left row)) ((i:Int),ds,pushed) r) (0,ds,pushed))=_ from q1,bS]
     obtain⟨ds',p',r1,r2,r3,r4⟩:=ih (i+1) ds1 p1 (by omega) q2
     refine⟨ds',p',r1,r2,fun z hz=>r3 z (q3 z hz),fun z hz hz1 hz2 e he he1 her=>?_⟩
     rw[hdrop] at hz
     rcases List.mem_cons.1 hz with rfl | hz
     ·exact r3 _ (q4 e.dst (by rw[drop_zero];exact(s2 _).2 ⟨e,he,he1,rfl⟩) her)
     ·exact r4 z hz hz1 hz2 e he he1 her
    ·have e1:Zeu left row n=n:=by unfold Zeu;rw[if_neg h1,if_neg h2]
     rw[e1,show(n != -1)=true by simpa using h1,cT]
     obtain⟨ds',p',q1,q2,q3,q4⟩:=ih (i+1) ds pushed (by omega) T
     refine⟨ds',p',q1,q2,q3,fun z hz hz1 hz2=>?_⟩
     rw[hdrop] at hz
     rcases List.mem_cons.1 hz with rfl | hz
     ·exact absurd hz2 h2
     ·exact q4 z hz hz1 hz2
 obtain⟨ds',p',q1,q2,_,q4⟩:=loop row.length 0 ds [] (by omega) T0
 have hbase:∀n,(was g left row n∨n∈p')↔base g.edges (ZJ left row) n:=fun n=>by
  have hlen:=ZbV row left
  constructor
  ·rintro ((h | ⟨h,h1⟩) | h)
   ·refine⟨⟨h.1.1,by rw[hlen];exact h.1.2⟩,?_,F.free hE cr.ok h.2.2.2⟩
    rw[F.tick_lf cr.ok h.1.1,if_neg h.2.2.1]
    exact h.2.1
   ·rcases ZrR h with h2 | ⟨h2,h3⟩
    ·exact absurd h2 h1
    ·rcases cr.ok.run n h2 with h4 | ⟨h4,h5,h6⟩
     ·exact absurd h4 h1
     ·refine⟨⟨h4.1,by rw[hlen];exact h4.2⟩,?_,F.free hE cr.ok h6⟩
      have:=(ZrQ cr'.ok n).1
      omega
   ·have:=q2.new n h
    exact⟨this.1.1,this.1.2.1,this.1.2.2.2⟩
  ·rintro ⟨h1,h2,h3⟩
   have hN:isN left n:=⟨h1.1,by rw[<- hlen];exact h1.2⟩
   by_cases ho:n∈ZH left row
   ·exact .inl (.inr ⟨ho,by have:=h1.1;omega⟩)
   ·by_cases hf:ZlB g.edges left n
    ·have hle:=F.tick_le cr.ok h1.1
     refine .inl (.inl ⟨hN,by omega,fun hr=>ho (ZyS hr (by have:=h1.1;omega) (by omega)),hf⟩)
    ·right
     have:∃e∈g.edges,e.dst=n/\lf left e.src≠0:=Classical.byContradiction fun hcn=>hf fun e he hd=>Classical.byContradiction fun hx=>hcn ⟨e,he,hd,hx⟩
     obtain⟨e,he,hd,hx⟩:=this
     have hs:=hE e he
     have h0:=h3 e he hd
     have hr:e.src∈row:=Classical.byContradiction fun hr=>by
      rw[F.tick_lf cr.ok hs.1.1,if_neg hr] at h0
      exact hx h0
     have:=q4 e.src (by rw[drop_zero];exact hr) (by have:=hs.1.1;omega) h0 e he rfl (by rw[hd];exact⟨h1,h2,ho,h3⟩)
     rwa [hd] at this
 have hmore:=TI.more hG cr hall q2.nod q2.new
 refine⟨ds',done,?_,⟨⟨cr',hol,q2.pg.dl,G.tl,G.fl,q2.pg.ring,G.en,G.f0,G.st,fun i n ti hi hn hti=>(by
  rw[Zcr,List.getElem?_map] at hi
  cases hr:row[i]? with
  | none=>rw[hr] at hi;cases hi
  | some k=>
   rw[hr] at hi
   have hk:Zeu left row k=n:=Option.some.inj hi
   exact G.bz i k ti hr (fun e=>hn (by rw[<- hk,e];rfl)) hti),q2.pg.inv.congr hbase⟩,fun c hcm=>?_⟩,t2⟩
 ·unfold ZbT
  rw[Zdf (show row.length<=1073741824 by have:=G.ol;omega),bS,show(Zj.mk g.work g.edges)=g from rfl,t1,bS]
  dsimp only
  rw[Zkx hc cr',bS,show(lp (Zao g.work g.edges row (ZH left row,ZJ left row,done) (ZX g.edges (ZJ left row) (ZH left row))) (0,ds,([]:List Int)))=_ from q1]
  rfl
 ·rw[(q2.pg.be hcm).1]
  have:=q2.cnt c hcm
  omega
end
end
section
def Zf9 (g:Zj) (need:List Int) (c:Int):Bool:=((need.length:Int)==(g.work.length:Int))&&(!(need.any fun n=>decide (n<1) || decide (1000<n))&&(decide (1<=c)&&decide (c<=8)))
noncomputable def ZkT (g:Zj) (need:List Int) (c:Int):Int:=bif ZM g==0 then (bif Zf9 g need c then 0 else 100) else ZM g
theorem ZsJ (n:Int):ZbY n=some (decide (n<1) || decide (1000<n)):=by
  unfold ZbY
  cases decide (n<1)<;>cases decide (1000<n)<;>rfl
theorem Zug {g:Zj} (hs:Zfc g) (need:List Int) (c:Int):ZgO g need c=some (bif ZM g==0 then Zf9 g need c else false,ZM g):=by
  unfold ZgO Zf9
  rw[ZeC g hs,bS]
  by_cases h:ZM g=0
  · rw[h]
    simp only[show((0:Int) != 0)=false from rfl,beq_self_eq_true,cF,cT]
    by_cases hl:(need.length:Int)=(g.work.length:Int)
    · have hw:=(ZT h).1.wl
      rw[show((need.length:Int)==(g.work.length:Int))=true from beq_iff_eq.2 hl,Zff need _ (fun n=>decide (n<1) || decide (1000<n)) (fun n _=>ZsJ n) (by omega),bS]
      cases (need.any fun n=>decide (n<1) || decide (1000<n))<;>cases decide (1<=c)<;>cases decide (c<=8)<;>rfl
    · rw[show((need.length:Int)==(g.work.length:Int))=false from beq_eq_false_iff_ne.2 hl]
      rfl
  · rw[show(ZM g != 0)=true by simpa using h,show(ZM g==0)=false from beq_eq_false_iff_ne.2 h]
    rfl
structure Zsz (g:Zj) (need:List Int) (c:Int):Prop where
  ck:ZM g=0
  nl:need.length=g.work.length
  rng:∀x∈need,1<=x/\x<=1000
  c1:1<=c
  c8:c<=8
theorem Zjd {g:Zj}{need:List Int}{c:Int}:ZkT g need c=0↔Zsz g need c:=by
  unfold ZkT
  constructor
  · intro h
    by_cases h1:ZM g=0
    · rw[h1] at h
      cases h2:Zf9 g need c with
      | false=>rw[h2] at h;exact absurd h (by decide)
      | true=>
        unfold Zf9 at h2
        simp only[aT,Bool.not_eq_true',beq_iff_eq,decide_eq_true_eq,List.any_eq_false,Bool.or_eq_true,not_or] at h2
        refine⟨h1,by omega,fun x hx=>?_,h2.2.2.1,h2.2.2.2⟩
        have:=h2.2.1 x hx
        omega
    · rw[show(ZM g==0)=false from beq_eq_false_iff_ne.2 h1] at h
      exact absurd h h1
  · intro h
    have:Zf9 g need c=true:=by
      unfold Zf9
      simp only[aT,Bool.not_eq_true',beq_iff_eq,decide_eq_true_eq,List.any_eq_false,Bool.or_eq_true,not_or]
      exact⟨by rw[h.nl],fun x hx=>by have:=h.rng x hx;omega,h.c1,h.c8⟩
    rw[h.ck,this];rfl
theorem ZDN (need:List Int) (h:need.length<=64):ZgI need=some (List.replicate need.length (-1)):=by
  have key:=ZlF (S:=List Int) need (Zbw need) (fun i s=>((i:Int),s)) (fun i s _=>s.set i (-1)) (fun s=>s) (fun i s=>s.length=need.length/\∀j,j<i->s[j]? = some (-1)) (fun i x s hi hx hI=>by
    have hy:=gE (show i<s.length by rw[hI.1];exact hi)
    refine⟨?_,by rw[length_set];exact hI.1,fun j hj=>?_⟩
    · simp only[Zbw,ZaU hi,cT,Zn hy,bS,ZA hi (by omega),toNat_natCast]
    · rw[List.getElem?_set]
      by_cases e:i=j
      · subst e;rw[if_pos rfl,if_pos (by rw[hI.1];exact hi)]
      · rw[if_neg e];exact hI.2 j (by omega)) (fun s _=>by simp only[Zbw,ZaY];rfl) (List.replicate (need.length:Int).toNat 0) ⟨by simp,fun j hj=>by omega⟩
  obtain⟨k1,k2,k3⟩:=key
  have e:Zex (fun i s (_:Int)=>s.set i (-1)) 0 (List.replicate (need.length:Int).toNat 0) need=List.replicate need.length (-1):=by
    apply List.ext_getElem?
    intro j
    by_cases hj:j<need.length
    · rw[k3 j hj,List.getElem?_replicate,if_pos hj]
    · rw[List.getElem?_eq_none (by omega),List.getElem?_eq_none (by simp;omega)]
  rw[e] at k1
  unfold ZgI
  rw[dT (show(0:Int)<=(need.length:Int) by omega),dT (show(need.length:Int)<=lim by show(need.length:Int)<=1073741824;omega),beq_self_eq_true]
  simp only[decide_true,Bool.and_true,cT]
  first
  | (rw[show(lp (Zbw need) (0,List.replicate (need.length:Int).toNat 0))=_ from k1];rfl)
  | simp only[show(lp (Zbw need) (0,List.replicate (need.length:Int).toNat 0))=_ from k1,bS]
theorem ZsN {g:Zj} (hs:Zfc g) (need:List Int) (c:Int):ZgR g need c ([]:List (List Int))=some (ZkT g need c):=by
  unfold ZgR Zk2
  rw[Zug hs,bS]
  dsimp only
  have hn:=@Zjd g need c
  unfold ZkT at hn ⊢
  by_cases h:ZM g=0
  · rw[h] at hn ⊢
    simp only[beq_self_eq_true,cT] at hn ⊢
    cases h2:Zf9 g need c with
    | false=>rfl
    | true=>
      rw[h2] at hn
      have hin:=hn.1 rfl
      have hw:=(ZT h).1.wl
      have hnl:=hin.nl
      rw[cT,show((0:Int) != 0)=false from rfl,cF]
      rw[show decide ((4096:Int)<(([]:List (List Int)).length:Int))=false from rfl,cF]
      have h0:Zav ([]:List (List Int)) (fun z0=>Zdt z0 c)=some false:=by
        unfold Zav Zbz
        rw[Zaj]
        rfl
      rw[h0,bS,cF,ZDN need (by omega),bS,Zaj]
      rfl
  · rw[show(ZM g==0)=false from beq_eq_false_iff_ne.2 h]
    simp only[cF,show(ZM g != 0)=true by simpa using h,cT]
    rfl
theorem ZjO {S R:Type}{c:Nat} (step:Int×S->Option ((Int×S)⊕R)) (f:Nat->S) (fin:S->R) (h1:∀i,i<c->step ((i:Int),f i)=some (.inl (((i+1:Nat):Int),f (i+1)))) (h2:step ((c:Int),f c)=some (.inr (fin (f c)))):lp step (0,f 0)=some (fin (f c)):=by
  have key:∀(k i:Nat),i+k=c->lp step ((i:Int),f i)=some (fin (f c)):=by
    intro k
    induction k with
    | zero => intro i hi; have : i = c := by omega
              subst this;rw[Zaj,h2]
    | succ k ih=>intro i hi;rw[Zaj,h1 i (by omega)];exact ih (i+1) (by omega)
  exact key c 0 (by omega)
theorem ZiR {α:Type} (i:Nat) (x:α):List.replicate i x++[x]=List.replicate (i+1) x:=by rw[List.replicate_succ']
theorem ZpJ {g:Zj} (hs:Zfc g) (need:List Int) (c:Int):ZgE g need c=some (bif ZkT g need c==0 then .inr (List.replicate c.toNat (-1)) else .inl (ZkT g need c)):=by
  unfold ZgE
  rw[ZsN hs,bS]
  by_cases h:ZkT g need c=0
  · have hin:=Zjd.1 h
    have hw:=(ZT hin.ck).1.wl
    have hnl:=hin.nl
    have c1:=hin.c1
    have c8:=hin.c8
    have hc:c=((c.toNat:Nat):Int):=by omega
    rw[h,show((0:Int) != 0)=false from rfl,cF,Zdf (show need.length<=1073741824 by omega),bS]
    have key:=ZjO (c:=c.toNat) (Zej c) (fun i=>List.replicate i (-1)) (fun s=>s) (fun i hi=>by
      simp only[Zej,dT (show(i:Int)<c by omega),cT,length_replicate,Zar (show i+1<=1073741824 by omega),ZiR]
      rw[Zcm (by omega)];rfl) (by
      simp only[Zej,dF (show ¬((c.toNat:Nat):Int)<c by omega)];rfl)
    rw[show(lp (Zej c) (0,([]:List Int)))=_ from key]
    rfl
  · rw[show(ZkT g need c != 0)=true by simpa using h,show(ZkT g need c==0)=false from beq_eq_false_iff_ne.2 h]
    rfl
def dq0:Za:=⟨List.replicate 64 0,0,0⟩
theorem Zsq:Zjn 64=some (dq0,0):=by
  obtain⟨k,hk⟩:=ZBq
  unfold Zjn
  rw[hk,bS]
  rfl
def tk0:Zb:=⟨false,0,0,0,0,0⟩
theorem ZuB {α:Type}{n i:Nat}{x y:α} (h:(List.replicate n x)[i]? = some y):y=x:=by
  rw[List.getElem?_replicate] at h
  split at h
  · exact(Option.some.inj h).symm
  · cases h
theorem Zy2 {g:Zj}{need:List Int}{c:Int} (hin:Zsz g need c):∃ds,ZfJ g need c=some (.inr (List.replicate c.toNat (-1),ds))/\Zoj g c.toNat need (List.replicate c.toNat (-1)) ds (List.replicate c.toNat tk0) (List.replicate c.toNat 0):=by
  have hc0:=hin.ck
  obtain⟨hG,hA⟩:=ZT hc0
  have hw:=hG.wl
  have hnl:=hin.nl
  have c1:=hin.c1
  have c8:=hin.c8
  generalize hm:c.toNat=m
  have hc:c=(m:Int):=by omega
  subst hc
  have cr:ZaB g need (List.replicate m (-1)):=⟨hnl,by rw[length_replicate];omega,by rw[length_replicate];omega,Zrm m hin.rng⟩
  have k0:=ZjO (c:=m) (ZaX (m:Int)) (fun i=>List.replicate i dq0) (fun s=>s) (fun i hi=>by
    simp only[ZaX,ZaU hi,cT,Zsq,bS,length_replicate,Zar (show i+1<=1073741824 by omega),ZiR]
    rw[Zcm (by omega)];rfl) (by simp only[ZaX,ZaY];rfl)
  have k0:lp (ZaX (m:Int)) (0,([]:List Za))=some (List.replicate m dq0):=k0
  have vO:∀(ds:List Za) i,i<m->(vw (List.replicate m (-1)) ds (List.replicate m tk0) (List.replicate m 0)).O i = -1:=fun ds i hi=>Zns _ ds _ _ (by rw[List.getElem?_replicate,if_pos hi])
  have va:∀(ds:List Za) i,(vw (List.replicate m (-1)) ds (List.replicate m tk0) (List.replicate m 0)).a i=0:=fun ds i=>by
    show gt _ _ _ _=_
    unfold gt
    rw[List.getElem?_replicate]
    split
    · rename_i h;split at h
      · cases h;rfl
      · cases h
    · rfl
  have P0:PG m (fun _=>False) (List.replicate m (-1)) (List.replicate m dq0) (List.replicate m tk0) (List.replicate m 0):=by
    have hx:∀i,i<m->(List.replicate m dq0)[i]? = some dq0:=fun i hi=>by rw[List.getElem?_replicate,if_pos hi]
    have ht:∀i,i<m->(List.replicate m tk0)[i]? = some tk0:=fun i hi=>by rw[List.getElem?_replicate,if_pos hi]
    have hf:∀i,i<m->(List.replicate m (0:Int))[i]? = some 0:=fun i hi=>by rw[List.getElem?_replicate,if_pos hi]
    refine⟨by simp,fun d hd=>by rw[(List.mem_replicate.1 hd).2];rfl,⟨fun i hi=>?_,⟨fun i k hk=>?_,fun i k i' k' h1=>?_,fun n hn=>hn.elim⟩⟩,fun i _=>va _ i⟩
    · have e1:(vw (List.replicate m (-1)) (List.replicate m dq0) (List.replicate m tk0) (List.replicate m 0)).T i=0:=ZO (hx i hi)
      have e2:(vw (List.replicate m (-1)) (List.replicate m dq0) (List.replicate m tk0) (List.replicate m 0)).B i=0:=ZO (hx i hi)
      have e3:(vw (List.replicate m (-1)) (List.replicate m dq0) (List.replicate m tk0) (List.replicate m 0)).x i=0:=ZO (ht i hi)
      have e4:(vw (List.replicate m (-1)) (List.replicate m dq0) (List.replicate m tk0) (List.replicate m 0)).y i=0:=ZO (ht i hi)
      have e5:(vw (List.replicate m (-1)) (List.replicate m dq0) (List.replicate m tk0) (List.replicate m 0)).F i=0:=ZO (hf i hi)
      exact Pos.still (va _ i) (by omega) (fun _=>e5) (by omega) (by omega) (by omega) (by omega) (by omega)
    · obtain⟨hi,h1,h2⟩:=hk
      have e1:(vw (List.replicate m (-1)) (List.replicate m dq0) (List.replicate m tk0) (List.replicate m 0)).T i=0:=ZO (hx i hi)
      have e2:(vw (List.replicate m (-1)) (List.replicate m dq0) (List.replicate m tk0) (List.replicate m 0)).B i=0:=ZO (hx i hi)
      have a0:=va (List.replicate m dq0) i
      unfold Zh.lo at h1
      unfold Zh.be at h2
      rw[if_neg (by omega)] at h1 h2
      omega
    · obtain⟨hi,h1,h2⟩:=h1
      have e1:(vw (List.replicate m (-1)) (List.replicate m dq0) (List.replicate m tk0) (List.replicate m 0)).T i=0:=ZO (hx i hi)
      have e2:(vw (List.replicate m (-1)) (List.replicate m dq0) (List.replicate m tk0) (List.replicate m 0)).B i=0:=ZO (hx i hi)
      have a0:=va (List.replicate m dq0) i
      unfold Zh.lo at h1
      unfold Zh.be at h2
      rw[if_neg (by omega)] at h1 h2
      omega
  have hB0:∀i,i<m->(vw (List.replicate m (-1)) (List.replicate m dq0) (List.replicate m tk0) (List.replicate m 0)).B i=0:=fun i hi=>ZO (show(List.replicate m dq0)[i]? = some dq0 by rw[List.getElem?_replicate,if_pos hi])
  generalize hR:ZX g.edges need (List.replicate m (-1))=R
  have hRn:R.Nodup:=by rw[<- hR];exact ZkQ _ _ _
  have hRm:∀z,z∈R↔Rdy g.edges need (List.replicate m (-1)) z:=fun z=>by rw[<- hR];exact ZqZ cr
  have hRl:R.length<=64:=by rw[<- hR];exact le_trans (ZeA _ _ _) (by omega)
  have hRf:R.length<=Zmf g.edges need:=by
    unfold Zmf
    refine ZjC _ _ hRn fun x hx=>?_
    have:=(hRm x).1 hx
    exact Zf3.2 ⟨this.1.1,this.1.2,by rw[toNat_of_nonneg this.1.1];exact Zcs.2 this.2.2.2⟩
  have loop:∀(k i:Nat) (ds:List Za),i+k=R.length->PG m (fun x=>x∈R.take i) (List.replicate m (-1)) ds (List.replicate m tk0) (List.replicate m 0)->(∀j,j<m->(vw (List.replicate m (-1)) ds (List.replicate m tk0) (List.replicate m 0)).B j<=(i:Int)) ->
      ∃ds',lp (Zbj (m:Int) R) ((i:Int),ds)=some ds'/\PG m (fun x=>x∈R) (List.replicate m (-1)) ds' (List.replicate m tk0) (List.replicate m 0)/\∀j,j<m->(vw (List.replicate m (-1)) ds' (List.replicate m tk0) (List.replicate m 0)).B j<=(R.length:Int):=by
    intro k
    induction k with
    | zero=>
      intro i ds hi P hB
      have hi:i=R.length:=by omega
      subst hi
      rw[List.take_length] at P
      refine⟨ds,?_,P,hB⟩
      rw[Zaj]
      simp only[Zbj,ZaY,cF]
    | succ k ih=>
      intro i ds hi P hB
      have hi':i<R.length:=by omega
      have hx:=gE hi'
      generalize hn:R[i]=n at hx
      have hnR:n∈R:=by rw[<- hn];exact getElem_mem _
      have hr:=(hRm n).1 hnR
      have h0:=hr.1.1
      have hcm:Int.tmod n (m:Int)=((n.toNat % m:Nat):Int):=by
        rw[Int.tmod_eq_emod_of_nonneg h0,Int.natCast_emod,toNat_of_nonneg h0]
      have hlt:n.toNat % m<m:=mod_lt _ (by omega)
      obtain⟨ds1,e1,e2,e3⟩:=ZBB (n:=n) P hlt (by omega) (by have:=hB _ hlt;omega) (fun hm'=>by
        obtain⟨j,hj⟩:=List.getElem?_of_mem hm'
        have hjl:=(gQ hj).1
        rw[length_take] at hjl
        rw[List.getElem?_take,if_pos (by omega)] at hj
        have:=ZtL hRn hj hx
        omega) (fun j hj=>by rw[vO _ j hj];omega)
      have htk:R.take (i+1)=R.take i++[n]:=by rw[List.take_add_one,hx];rfl
      obtain⟨ds',q1,q2,q3⟩:=ih (i+1) ds1 (by omega) ⟨e2.dl,e2.ring,e2.inv.congr fun x=>by rw[htk,List.mem_append,mem_singleton],e2.a0⟩ (fun j hj=>by
        rw[e3 j]
        have:=hB j hj
        split
        · rename_i e;subst e;omega
        · omega)
      refine⟨ds',?_,q2,q3⟩
      rw[Zaj]
      simp only[Zbj,ZaU hi',cT,Zn hx,bS,show((m:Int)==0)=false from beq_eq_false_iff_ne.2 (by omega),cF,hcm,e1,ZA hi' (show R.length<9223372036854775808 by omega)]
      exact q1
  obtain⟨ds',q1,q2,q3⟩:=loop R.length 0 (List.replicate m dq0) (by omega) ⟨P0.dl,P0.ring,P0.inv.congr fun x=>by rw[List.take_zero];simp,P0.a0⟩ (fun j hj=>by rw[hB0 j hj];exact le_refl _)
  have hbase:∀n,n∈R↔base g.edges need n:=fun n=>by
    rw[hRm]
    constructor
    · intro h;exact⟨h.1,h.2.1,h.2.2.2⟩
    · intro h
      refine⟨h.1,h.2.1,fun hm'=>?_,h.2.2⟩
      have:=(List.mem_replicate.1 hm').2
      have:=h.1.1
      omega
  refine⟨ds',?_,⟨⟨cr,by simp,q2.dl,by simp,by simp,q2.ring,fun t ht=>by rw[(List.mem_replicate.1 ht).2];rfl,fun f hf=>by rw[(List.mem_replicate.1 hf).2];exact le_refl _,fun i t f ht hf=>?_,fun i n t hi hn ht=>?_,q2.inv.congr hbase⟩,fun i hi=>?_⟩⟩
  · unfold ZfJ
    rw[ZpJ hG.short,Zjd.2 hin]
    simp only[beq_self_eq_true,cT,bS]
    rw[dT (show(0:Int)<=(m:Int) by omega),dT (show(m:Int)<=lim by show(m:Int)<=1073741824;omega)]
    simp only[decide_true,Bool.and_true,cT,k0,bS,toNat_natCast,Zkx hc0 cr,hR]
    rw[show(lp (Zbj (m:Int) R) (0,List.replicate m dq0))=_ from q1]
    rfl
  · rw[ZuB ht,ZuB hf];rfl
  · exact ZuB ht
  · rw[(q2.be hi).1]
    have:=q3 i hi
    omega
section
variable {g:Zj} {m:Nat} {left on fs:List Int} {ds:List Za} {ts:List Zb}
theorem Zte (G:GangIn g m left on ds ts fs) {i:Nat}{d:Za} (hd:ds[i]? = some d):ZkX d:=by
  have hi:i<m:=by rw[<- G.dl];exact(gQ hd).1
  have p:=G.inv.pos i hi
  have qT:(vw on ds ts fs).T i=d.top:=ZO hd
  have qB:(vw on ds ts fs).B i=d.bottom:=ZO hd
  have hbe:(vw on ds ts fs).be i=d.bottom∨(vw on ds ts fs).be i=d.bottom+1:=by
    unfold Zh.be
    split
    · right;rw[qB]
    · left;rw[qB]
  have h0:=p.T0
  have h1:=p.TB
  have h2:=p.B64
  rw[qT] at h0 h1
  exact⟨G.ring d (mG hd),h0,by omega,by rcases hbe with e | e<;>omega,by rcases hbe with e | e<;>omega⟩
theorem Zvk (G:GangIn g m left on ds ts fs):ZgJ ⟨⟨on,left⟩,ds,ts,fs⟩=some true:=by
  have h8:m<=8:=by rw[<- G.ol];exact G.crew.o8
  unfold ZgJ
  dsimp only
  rw[G.dl,G.tl,G.fl,G.ol]
  simp only[bne_self_eq_false,cF]
  rw[Zhm ds (Zdn ⟨⟨on,left⟩,ds,ts,fs⟩) (.inr ()) (fun i d hi hd=>?_) (by simp only[Zdn,ZaY];rfl)]
  · rfl
  · have hi':i<m:=by rw[<- G.dl];exact hi
    have ht:=gE (show i<ts.length by rw[G.tl];exact hi')
    have hf:=gE (show i<fs.length by rw[G.fl];exact hi')
    have ho:=gE (show i<on.length by rw[G.ol];exact hi')
    generalize ts[i]'(by rw[G.tl];exact hi')=t at ht
    generalize fs[i]'(by rw[G.fl];exact hi')=f at hf
    generalize on[i]'(by rw[G.ol];exact hi')=n at ho
    have dok:=Zte G hd
    have h0:=G.f0 f (mG hf)
    have hfm:=(G.inv.pos i hi').F
    rw[show(vw on ds ts fs).F i=f.toNat from ZO hf] at hfm
    have hst:=G.st i t f ht hf
    have hen:=G.en t (mG ht)
    simp only[Zdn,ZaU hi,cT,Zn hd,Zn ht,Zn hf,Zn ho,bS,ZgB dok,show((0:Int) != 0)=false from rfl,cF,dok.len,show(((64:Nat):Int) != 64)=false from rfl,hen,dF (show ¬f<0 by omega),G.ol,dF (show ¬(m:Int)<=f by omega),ZA hi (show ds.length<9223372036854775808 by rw[G.dl];omega)]
    by_cases hn:n = -1
    · rw[show(n != -1)=false by rw[hn];rfl]
      simp only[cF]
      rw[hst]
      cases f != 0<;>rfl
    · have hz:=G.bz i n t ho hn ht
      rw[hz] at hst
      have hf0:(f != 0)=false:=hst.symm
      rw[hz,hf0,show(n != -1)=true by simpa using hn]
      rfl
theorem Zp7 (h:ZM g=0) (G:GangIn g m left on ds ts fs):Zfg g ⟨⟨on,left⟩,ds,ts,fs⟩=some 0:=by
  unfold Zfg
  dsimp only
  rw[Zhf h G.crew,bS,beq_self_eq_true,cT,Zvk G]
  rfl
theorem ZyY {S:Type} (ds:List Za) (hr:∀d∈ds,d.ring.length=64) (hl:ds.length<=8) (left on fs:List Int) (ts:List Zb):lp (ZdH ⟨⟨on,left⟩,ds,ts,fs⟩) (0,ds)=some ds:=by
  have key:=ZjO (c:=ds.length) (ZdH ⟨⟨on,left⟩,ds,ts,fs⟩) (fun _=>ds) (fun s=>s) (fun i hi=>by
    have hx:=gE hi
    have:ds.set i ds[i]=ds:=List.set_getElem_self hi
    simp only[ZdH,ZaU hi,cT,Zn hx,bS,Zdf (show ds[i].ring.length<=1073741824 by rw[hr _ (getElem_mem hi)];omega),ZA hi (by omega),toNat_natCast,this]) (by simp only[ZdH,ZaY];rfl)
  exact key
theorem Zth (hG:Zbe g) (G:GangIn g m left on ds ts fs):Zg6 ⟨⟨on,left⟩,ds,ts,fs⟩=some ds:=by
  have h8:m<=8:=by rw[<- G.ol];exact G.crew.o8
  have h1:1<=m:=by rw[<- G.ol];exact G.crew.o1
  have hw:=hG.wl
  have ll:=G.crew.ll
  have ol:=G.ol
  have tl:=G.tl
  have fl:=G.fl
  have dl:=G.dl
  unfold Zg6
  dsimp only
  rw[Zdf (show on.length<=1073741824 by omega),bS,Zdf (show left.length<=1073741824 by omega),bS]
  have c1:Za3 ts=some ():=by
    unfold Za3
    rw[show Nat.blt 0 ts.length=true by rw[tl];simp[Nat.blt];omega,Zar (by omega)];rfl
  have c2:Za0 ds=some ():=by
    unfold Za0
    rw[show Nat.blt 0 ds.length=true by rw[dl];simp[Nat.blt];omega,Zar (by omega)];rfl
  rw[c1,bS,Zdf (show fs.length<=1073741824 by omega),bS,c2,bS,ZyY (S:=Unit) ds G.ring (by omega)]
  rfl
end
end
section
section
variable {g:Zj} {m:Nat} {left on fs:List Int} {ds:List Za} {ts:List Zb}
theorem Zxa {on' fs':List Int}{ds':List Za}{ts':List Zb} (G:GangIn g m left on ds ts fs) (G':GangIn g m left on' ds' ts' fs') (hw:∀c,¬ZdA m (vw on' ds' ts' fs') c) (K:Zss m on on' ds ds' ts ts' fs fs'):Zfi g.edges left on on':=by
  refine⟨by rw[G'.ol,G.ol],fun c n h hn=>K.row c n h hn,fun c n h1 h2=>?_,G'.crew.ok.one,(Zvz G' hw).2⟩
  rcases G'.crew.ok.run n (mG h2) with h | ⟨h3,h4,h5⟩
  · exact .inl h
  · refine .inr ⟨h3,h4,fun hm=>?_,h5⟩
    have hne:n ≠ -1:=by have:=h3.1;omega
    obtain⟨j,hj⟩:=List.getElem?_of_mem hm
    have:=G'.crew.ok.one j c n (K.row j n hj hne) h2 hne
    subst this
    rw[h1] at hj
    exact hne (Option.some.inj hj).symm
end
theorem Zwv:∀(l:List Int),(∀x∈l,0<=x/\x<=1000)->0<=l.sum/\l.sum<=1000*(l.length:Int)
  | [],_=>by simp
  | x :: l,h=>by
    have:=Zwv l fun y hy=>h y (by simp[hy])
    have:=h x (by simp)
    rw[sum_cons,length_cons]
    omega
theorem ZsX {l:List Int}{i:Nat}{x:Int} (h:l[i]? = some x):(l.take (i+1)).sum=(l.take i).sum+x:=by
  rw[List.take_add_one,h,List.sum_append]
  simp
theorem Zpr {need:List Int} (hr:∀x∈need,0<=x/\x<=1000) (hl:need.length<=64) (step:Int×Int->Option ((Int×Int)⊕Int)) (h1:∀(i:Nat) (s x:Int),i<need.length->need[i]? = some x->step (s,(i:Int))=some (.inl (w64 (s+x),w64 ((i:Int)+1)))) (h2:∀s,step (s,(need.length:Int))=some (.inr s)) :
    lp step (0,0)=some need.sum:=by
  have key:∀(k i:Nat),i+k=need.length->lp step ((need.take i).sum,(i:Int))=some need.sum:=by
    intro k
    induction k with
    | zero => intro i hi; have : i = need.length := by omega
              subst this;rw[Zaj,h2,List.take_length]
    | succ k ih=>
      intro i hi
      have hi':i<need.length:=by omega
      have hx:=gE hi'
      have hsx:=hr _ (getElem_mem hi')
      have hs:=Zwv (need.take i) fun x hx=>hr x (List.mem_of_mem_take hx)
      rw[length_take] at hs
      rw[Zaj,h1 i _ _ hi' hx]
      dsimp only
      rw[Zcm (by omega),ZA hi' (by omega),<- ZsX hx]
      exact ih (i+1) (by omega)
  exact key need.length 0 (by omega)
structure ZEo (g:Zj) (need:List Int) (m:Nat) (t:List (List Int)):Prop where
  done:∃left on,Sched g.edges need m t left on/\∀n,isN left n->lf left n=0
end
def Zbh:List Int->List Int->List Int
 | [],_=>[]
 | n :: on,l=>if n = -1 then (match l with | []=>-1 :: Zbh on [] | x :: l'=>x :: Zbh on l') else n :: Zbh on l
theorem Zmt:∀(on l:List Int),(Zbh on l).length=on.length
 | [],_=>rfl
 | n :: on,l=>by
  unfold Zbh
  split
  ·cases l with
   | nil=>simp[Zmt on []]
   | cons x l'=>simp[Zmt on l']
  ·simp[Zmt on l]
theorem Zil:∀(on l:List Int) (c:Nat) (n:Int),on[c]? = some n->n ≠ -1->(Zbh on l)[c]? = some n
 | [],_,c,n,h,_=>by simp at h
 | k :: on,l,c,n,h,hn=>by
  unfold Zbh
  cases c with
  | zero=>
   simp only[List.getElem?_cons_zero,sJ] at h
   subst h
   rw[if_neg hn]
   rfl
  | succ c=>
   rw[List.getElem?_cons_succ] at h
   split
   ·cases l with
    | nil=>exact Zil on [] c n h hn
    | cons x l'=>exact Zil on l' c n h hn
   ·exact Zil on l c n h hn
theorem ZlZ:∀(on l:List Int) (c:Nat) (n:Int),(Zbh on l)[c]? = some n->on[c]? = some n∨(on[c]? = some (-1)/\n∈l)
 | [],_,c,n,h=>by simp[Zbh] at h
 | k :: on,l,c,n,h=>by
  unfold Zbh at h
  split at h
  ·rename_i hk
   subst hk
   cases l with
   | nil=>
    cases c with
    | zero=>exact .inl h
    | succ c=>
     rw[List.getElem?_cons_succ] at h ⊢
     rcases ZlZ on [] c n h with h | h
     ·exact .inl h
     ·cases h.2
   | cons x l'=>
    cases c with
    | zero=>
     simp only[List.getElem?_cons_zero,sJ] at h
     subst h
     exact .inr ⟨rfl,mem_cons_self⟩
    | succ c=>
     rw[List.getElem?_cons_succ] at h ⊢
     rcases ZlZ on l' c n h with h | h
     ·exact .inl h
     ·exact .inr ⟨h.1,mem_cons_of_mem _ h.2⟩
  ·cases c with
   | zero=>exact .inl h
   | succ c=>
    rw[List.getElem?_cons_succ] at h ⊢
    exact ZlZ on l c n h
theorem Zpc:∀(on l:List Int), -1∉l -> -1∈Zbh on l->∀x∈l,x∈Zbh on l
 | [],_,_,h=>by simp[Zbh] at h
 | k :: on,l,hl,h=>by
  unfold Zbh at h ⊢
  split
  ·rename_i hk
   rw[if_pos hk] at h
   cases l with
   | nil=>intro x hx;cases hx
   | cons y l'=>
    have hy:y ≠ -1:=fun hy=>hl (by rw[hy];exact mem_cons_self)
    have h' : -1∈Zbh on l':=by
     rcases List.mem_cons.1 h with h | h
     ·exact absurd h.symm hy
     ·exact h
    intro x hx
    rcases List.mem_cons.1 hx with rfl | hx
    ·exact mem_cons_self
    ·exact mem_cons_of_mem _ (Zpc on l' (fun hm=>hl (mem_cons_of_mem _ hm)) h' x hx)
  ·rename_i hk
   rw[if_neg hk] at h
   have h' : -1∈Zbh on l:=by
    rcases List.mem_cons.1 h with h | h
    ·exact absurd h.symm hk
    ·exact h
   intro x hx
   exact mem_cons_of_mem _ (Zpc on l hl h' x hx)
theorem ZkJ:∀(on l:List Int),ZpG on->l.Nodup->(∀x∈l,x∉on)->ZpG (Zbh on l)
 | [],_,_,_,_=>fun i j n hi=>by simp[Zbh] at hi
 | k :: on,l,ho,hl,hd=>by
  have ht:=ho.tail
  have cons:∀(y:Int) (l':List Int),ZpG (Zbh on l')->(y ≠ -1->y∉Zbh on l')->ZpG (y :: Zbh on l'):=fun y l' h1 h2=>by
   intro i j n hi hj hn
   cases i with
   | zero=>
    simp only[List.getElem?_cons_zero,sJ] at hi
    subst hi
    cases j with
    | zero=>rfl
    | succ j=>rw[List.getElem?_cons_succ] at hj;exact absurd (mG hj) (h2 hn)
   | succ i=>
    rw[List.getElem?_cons_succ] at hi
    cases j with
    | zero=>
     simp only[List.getElem?_cons_zero,sJ] at hj
     subst hj
     exact absurd (mG hi) (h2 hn)
    | succ j=>rw[List.getElem?_cons_succ] at hj;exact congrArg Nat.succ (h1 i j n hi hj hn)
  have mem:∀(l':List Int) (n:Int),n∈Zbh on l'->n∈on∨n∈l':=fun l' n hn=>by
   obtain⟨c,hc⟩:=List.getElem?_of_mem hn
   rcases ZlZ on l' c n hc with h | h
   ·exact .inl (mG h)
   ·exact .inr h.2
  unfold Zbh
  split
  ·cases l with
   | nil=>exact cons _ _ (ZkJ on [] ht.1 .nil (fun x hx=>by cases hx)) fun h=>absurd rfl h
   | cons y l'=>
    have hy:=List.nodup_cons.1 hl
    refine cons _ _ (ZkJ on l' ht.1 hy.2 fun x hx hm=>hd x (mem_cons_of_mem _ hx) (mem_cons_of_mem _ hm)) fun hn hm=>?_
    rcases mem l' y hm with h | h
    ·exact hd y mem_cons_self (mem_cons_of_mem _ h)
    ·exact hy.1 h
  ·refine cons _ _ (ZkJ on l ht.1 hl fun x hx hm=>hd x hx (mem_cons_of_mem _ hm)) fun hn hm=>?_
   rcases mem l k hm with h | h
   ·exact ht.2 hn h
   ·exact hd k h mem_cons_self
theorem ZwV {g:Zj}{left on:List Int} (c:ZaB g left on):Zfi g.edges left on (Zbh on (ZX g.edges left on)):=by
 have hr:∀x∈left,0<=x:=fun x hx=>(c.ok.rng x hx).1
 have hm:=fun n=>ZkH (E:=g.edges) (on:=on) hr (n:=n)
 have hn1 : -1∉ZX g.edges left on:=fun h=>by have:=((hm _).1 h).1.1;omega
 refine⟨Zmt _ _,fun k n h1 h2=>Zil _ _ k n h1 h2,fun k n h1 h2=>?_,ZkJ _ _ c.ok.one (ZkQ _ _ _) fun x hx=>((hm x).1 hx).2.2.1,fun h n hn=>?_⟩
 ·rcases ZlZ _ _ k n h2 with h | h
  ·rw[h1] at h
   exact .inl (Option.some.inj h).symm
  ·exact .inr ((hm n).1 h.2)
 ·have hno:n∉on:=fun hon=>by
   have hne:n ≠ -1:=fun h0=>by have:=hn.1.1;omega
   obtain⟨k,hk⟩:=List.getElem?_of_mem hon
   exact hn.2.2.1 (mG (Zil _ _ k n hk hne))
  exact hn.2.2.1 (Zpc _ _ hn1 h n ((hm n).2 ⟨hn.1,hn.2.1,hno,hn.2.2.2⟩))
theorem ZyX {g:Zj} (h:ZM g=0) {left on:List Int} (c:ZaB g left on):ZfY g (Zq.mk on left)=some (ZX g.edges left on):=by
 have:=Zkx h c
 unfold Zc1 at this
 rw[Zhf h c,bS] at this
 simpa using this
theorem Zsu (m:List Int):∀(s pre l:List Int),pre.length+s.length=m.length->m.length<=8->l.length<=64->lp (Zdq m) (l,(pre.length:Int),pre++s)=some (pre++Zbh s l)
 | [],pre,l,hm,h8,hl=>by
  rw[Zaj]
  have e:(pre.length:Int)=(m.length:Int):=by simp at hm;omega
  simp only[Zdq,e,ZaY,cF]
  simp[Zbh]
 | n :: s,pre,l,hm,h8,hl=>by
  have hlt:pre.length<m.length:=by simp at hm;omega
  have hget:Zt (pre++n :: s) (pre.length:Int)=some n:=Zn (by simp)
  have hw:=ZA hlt (by omega)
  have hnext:∀(y:Int) (l':List Int),l'.length<=64->lp (Zdq m) (l',((pre.length+1:Nat):Int),pre++y :: s)=some (pre++y :: Zbh s l'):=fun y l' hl'=>by
   have:=Zsu m s (pre++[y]) l' (by simp at hm ⊢;omega) h8 hl'
   simpa using this
  have hset:∀y:Int,(pre++n :: s).set pre.length y=pre++y :: s:=fun y=>by simp
  rw[Zaj]
  simp only[Zdq,ZaU hlt,cT,hget,bS,hw]
  unfold Zbh
  cases hn:n == -1 with
  | false=>
   have hne:n ≠ -1:=fun h=>by rw[h] at hn;cases hn
   rw[if_neg hne]
   simp only[cF]
   exact hnext n l hl
  | true=>
   have he:n = -1:=eq_of_beq hn
   rw[if_pos he]
   simp only[cT]
   cases l with
   | nil=>
    simp only[length_nil,Int.natCast_zero,Int.lt_irrefl,decide_false,cF]
    rw[he]
    exact hnext (-1) [] (by simp)
   | cons x l'=>
    have h0:decide ((0:Int)<(((x :: l').length:Nat):Int))=true:=dT (by simp)
    have hx:Zt (x :: l') 0=some x:=rfl
    have hb:Nat.ble 1 (x :: l').length=true:=Nat.ble_eq_true_of_le (by simp)
    simp only[h0,cT,hx,bS,hb,List.drop_succ_cons,drop_zero,toNat_natCast,hset]
    exact hnext x l' (by simp at hl;omega)
theorem Zwk {g:Zj} (h:ZM g=0) {left on:List Int} (c:ZaB g left on):ZiV g ⟨on,left⟩=some (⟨Zbh on (ZX g.edges left on),left⟩,0):=by
 obtain⟨hG,hA⟩:=ZT h
 have hl:=ZeA g.edges left on
 have ll:=c.ll
 have hwl:=hG.wl
 have o8:=c.o8
 unfold ZiV
 rw[Zhf h c,bS,show((0:Int) != 0)=false from rfl,cF]
 have ho:Zgs ⟨on,left⟩=some ():=by
  unfold Zgs Zo
  simp only[Zar (show on.length<=1073741824 by omega),Zar (show left.length<=1073741824 by omega)]
  rfl
 rw[ho,bS]
 unfold ZlQ
 rw[ZyX h c,bS]
 have:=Zsu on on [] (ZX g.edges left on) (by simp) o8 (by omega)
 simp only[length_nil,Int.natCast_zero,List.nil_append] at this
 rw[this]
 rfl
def Zxi (a:Zj):Bool:=decide ((a.work.length:Int)<=70)&&decide ((a.edges.length:Int)<=300)
theorem ZFE (a:Zj):ZiY a=some (Zxi a):=by
 unfold ZiY Zxi
 cases decide ((a.work.length:Int)<=70)<;>cases decide ((a.edges.length:Int)<=300)<;>rfl
theorem ZuE {a:Zj} (h:Zxi a=true):a.work.length<=70/\a.edges.length<=300/\Zfc a:=by
 unfold Zxi at h
 simp only[aT,decide_eq_true_eq] at h
 refine⟨by omega,by omega,⟨by omega,by omega⟩⟩
theorem ZzC {a:Zj} (h:Zxi a=true):ZfE a=some ():=by
 obtain⟨h1,h2,_⟩:=ZuE h
 unfold ZfE
 rw[Zar (by omega),Zar (by omega)]
 rfl
theorem Zzs {xs:List D} (h:Ze8 [.sl false [.int .i64],.sl true [.int .i64,.int .i64]] xs):∃d:Zj,D.agg xs=ZIj d/\ZF8 d.work:=by
 obtain⟨_,_,rfl,h1,_,_,rfl,h2,rfl⟩:=h
 obtain⟨w,rfl,w1⟩:=Zxv h1
 obtain⟨l,rfl,b,p⟩:=ZDl (f:=Zbs) (p:=ZE9) h2 fun cs hc=>by
  obtain⟨_,_,rfl,⟨a,rfl,wa⟩,_,_,rfl,⟨b,rfl,wb⟩,rfl⟩:=hc
  exact⟨⟨a,b⟩,rfl,ZuF wa,ZuF wb⟩
 exact⟨⟨w,l⟩,rfl,w1⟩
theorem ZrB {xs:List D} (h:Ze8 [.sl false [.int .i64]] xs):∃l,ZkF false xs=ZdQ true l/\ZF8 l:=by
 obtain⟨_,_,rfl,h1,rfl⟩:=h
 exact Zxv h1
structure ZEH (g:Zj) (need:List Int) (m:Nat) (t:List (List Int)):Prop where
 busy:(Zet t:Int)=need.sum
 rows:∀row∈t,row.length=m
 short:t.length<=Zet t
 one:m=1->Zet t=t.length
theorem ZEo.all {g:Zj}{need:List Int}{c:Int}{t:List (List Int)} (hin:Zsz g need c) (R:ZEo g need c.toNat t):ZEH g need c.toNat t:=by
 obtain⟨left,on,S,hz⟩:=R.done
 obtain⟨hG,hA⟩:=ZT hin.ck
 have hE:ZfV g.edges need.length:=by rw[hin.nl];exact ZgZ hG
 have hr:∀x∈need,1<=x/\x<=1000:=hin.rng
 have hs:=S.sum hr hE
 have h0:left.sum=0:=ZCZ fun x hx=>by
  obtain⟨i,hi⟩:=List.getElem?_of_mem hx
  have hil:=(gQ hi).1
  have:=hz (i:Int) ⟨by omega,by simpa using hil⟩
  rwa [Zmd hi] at this
 have c1:=hin.c1
 refine⟨by omega,S.len.2.2,S.short hG hA hin.nl hr (by omega),fun hm=>?_⟩
 rw[hm] at S
 exact ZBj hG hA hin.nl hr S
theorem ZzQ {g:Zj} (hG:Zbe g) (b c:Int):ZfU g b c=some (g.edges.any fun e=>e.src==b&&e.dst==c):=by
 have k:=Zdd g.edges (Zeb g b c) (fun _ e=>e.src==b&&e.dst==c) (fun _ _=>.inl ()) (.inr ()) (fun i x hi hx=>by
  simp only[Zeb,ZaU hi,cT,Zn hx,bS,ZA hi hG.short.e]
  cases x.src==b<;>cases x.dst==c<;>rfl) (by simp only[Zeb,ZaY];rfl)
 unfold ZfU
 rw[k,Zbi,Zg2]
 cases g.edges.any fun e=>e.src==b&&e.dst==c<;>rfl
def ZlT (g:Zj) (n:Int):List Int:=((List.range g.work.length).filter fun i:Nat=>g.edges.any fun e=>e.src==(i:Int)&&e.dst==n).map fun i:Nat=>(i:Int)
theorem ZwL {g:Zj} (hG:Zbe g) (n:Int):ZgQ g n=some (ZlT g n):=by
 have hw:=hG.wl
 unfold ZgQ
 rw[ZkO (n:=g.work.length) (ZdC g n) (fun i:Nat=>g.edges.any fun e=>e.src==(i:Int)&&e.dst==n) (fun i out hi ho=>by
  simp only[ZdC,ZaU hi,cT,ZzQ hG,bS,ZA hi (by omega),Zar (show out.length+1<=1073741824 by omega)]
  cases g.edges.any fun e=>e.src==(i:Int)&&e.dst==n<;>rfl) (fun out=>by simp only[ZdC,ZaY];rfl)]
 rfl
theorem Zno {g:Zj} (hG:Zbe g) {n z:Int}:z∈ZlT g n↔∃e∈g.edges,e.src=z/\e.dst=n:=by
 unfold ZlT
 rw[Zf3,any_eq_true]
 constructor
 ·rintro ⟨h0,h1,e,he,h2⟩
  simp only[aT,beq_iff_eq] at h2
  exact⟨e,he,by omega,h2.2⟩
 ·rintro ⟨e,he,h1,h2⟩
  have:=hG.src e he
  rw[h1] at this
  exact⟨this.1,this.2,e,he,by simp only[aT,beq_iff_eq];omega⟩
theorem Zxg (g:Zj) (n:Int):(ZlT g n).length<=g.work.length:=by
 unfold ZlT
 rw[length_map]
 exact le_trans (List.length_filter_le _ _) (by rw[List.length_range];exact Nat.le_refl _)
theorem Zpz {g:Zj} (hG:Zbe g) {left on:List Int} (c:ZaB g left on) (n:Int):ZeS g ⟨on,left⟩ n=some (ZiH g.edges left n):=by
 have hw:=hG.wl
 have hpl:=Zxg g n
 unfold ZeS
 rw[ZwL hG,bS]
 have k:=Zdd (ZlT g n) (Zed ⟨on,left⟩ (ZlT g n)) (fun _ x=>decide (0<lf left x)) (fun _ _=>.inl ()) (.inr ()) (fun i x hi hx=>by
  obtain⟨e,he,h1,h2⟩:=(Zno hG).1 (mG hx)
  have hs:=hG.src e he
  rw[h1] at hs
  have hin:isN left x:=⟨hs.1,by rw[c.ll];exact hs.2⟩
  simp only[Zed,ZaU hi,cT,Zn hx,bS,Zkf hin,ZA hi (by omega)]
  cases decide (0<lf left x)<;>rfl) (by simp only[Zed,ZaY];rfl)
 rw[k,Zbi,Zg2,bS]
 cases ha:(ZlT g n).any fun x=>decide (0<lf left x) with
 | true=>
  obtain⟨x,hx,h0⟩:=List.any_eq_true.1 ha
  obtain⟨e,he,h1,h2⟩:=(Zno hG).1 hx
  have:ZiH g.edges left n=false:=by
   cases hf:ZiH g.edges left n with
   | false=>rfl
   | true=>
    have:=Zcs.1 hf e he h2
    rw[h1] at this
    rw[this] at h0
    exact absurd h0 (by decide)
  rw[this];rfl
 | false=>
  have:ZiH g.edges left n=true:=Zcs.2 fun e he hd=>by
   have h0:=List.any_eq_false.1 ha e.src ((Zno hG).2 ⟨e,he,rfl,hd⟩)
   have:=(ZrQ c.ok e.src).1
   have h0:¬0<lf left e.src:=by simpa using h0
   omega
  rw[this];rfl
theorem Zk6 {g:Zj} (hG:Zbe g) {left on:List Int} (c:ZaB g left on):Zch g ⟨on,left⟩=some (ZX g.edges left on):=by
 have hw:=hG.wl
 have ll:=c.ll
 have o8:=c.o8
 unfold Zch
 rw[ZkO (n:=left.length) (ZdD g ⟨on,left⟩) (fun i:Nat=>!(lf left (i:Int)==0)&&(!(decide ((i:Int)∈on))&&ZiH g.edges left (i:Int))) (fun i out hi ho=>by
  have hin:isN left (i:Int):=⟨by omega,by simpa using hi⟩
  have h0:=(ZrQ c.ok (i:Int)).1
  have e:decide (0<lf left (i:Int)) = !(lf left (i:Int)==0):=by
   by_cases h:lf left (i:Int)=0
   ·rw[h];rfl
   ·rw[dT (by omega),show(lf left (i:Int)==0)=false from beq_eq_false_iff_ne.2 h];rfl
  simp only[ZdD,ZaU hi,cT,Zkf hin,bS,Zky on (i:Int) (by omega),ZhQ,Zpz hG c,ZA hi (by omega),Zar (show out.length+1<=1073741824 by omega),e]
  cases lf left (i:Int)==0<;>cases decide ((i:Int)∈on)<;>cases ZiH g.edges left (i:Int)<;>rfl) (fun out=>by simp only[ZdD,ZaY];rfl)]
 rfl
theorem ZrO {n:Int} (h:n≠0):(n != 0)=true:=bne_iff_ne.2 h
theorem ZAi:∃k,Zhb 64=some (k,true):=by
 obtain⟨k,hk⟩:=ZDz 64
 have:=Zww 64 (by omega)
 rw[show((64:Nat):Int)=64 from rfl] at this
 rw[this] at hk
 exact⟨k,hk⟩
theorem ZhR {d:Za} (h:ZkX d):ZC d=some true:=by
 obtain⟨k,hk⟩:=ZAi
 have:=h.t0;have:=h.t1;have:=h.b0;have:=h.b1
 unfold ZC ZhO
 rw[h.len,show((64:Nat):Int)=64 from rfl,hk,bS,Zcm (by omega),Zcm (by omega)]
 rw[dT (show(64:Int)<=64 by omega),dT (show 0<=d.top by omega),dT (show d.top<=1099511627775 by omega),dT (show d.top-1<=d.bottom by omega),dT (show d.bottom<=d.top+64 by omega)]
 rfl
theorem ZqI {d:Za} (h:d.ring.length=64) (k:Int):Zfu d k=some (Zfv d.ring k):=by
 have hp:=(ZrF k).1
 unfold Zfu
 rw[h,show((64:Nat):Int)=64 from rfl,show((64:Int)==0)=false from rfl,cF,cF]
 by_cases hk:k<0
 ·rw[dT hk,cT] at hp
  rw[dT hk,cT,hp,ZiD h];rfl
 ·rw[dF hk,cF] at hp
  rw[dF hk,cF,hp,ZiD h];rfl
theorem Zza {d d':Za}{t t':Zb} (hd:ZkX d) (ht:Zw3 t) (h:Zag d t=some (d',t',0)) :
  (t.steal=true->Zae d t=some (d',t'))/\(t.steal=false->Zad d t=some (d',t')):=by
 have a0:=ht.a0;have a4:=ht.a4
 unfold Zag at h
 rw[ZgB hd,Zws ht,Zmm hd.len] at h
 simp only[bS,show((0:Int) != 0)=false from rfl,cF,cT] at h
 constructor
 ·intro hs
  have a3:=ht.a3 hs
  rw[hs,cT] at h
  cases hx:ZaV d.top d.bottom t.at_ t.top t.bottom t.got t.end_ d.ring with
  | none=>rw[hx] at h;cases h
  | some x=>
   rw[hx,bS] at h
   cases hc:ZaG ⟨d.ring,x.1,d.bottom⟩ with
   | none=>rw[hc] at h;cases h
   | some e=>
    rw[hc,bS] at h
    by_cases he:e=0
    ·subst he
     rw[show((0:Int) != 0)=false from rfl,cF] at h
     have h2:=Option.some.inj h
     have e1:(⟨d.ring,x.1,d.bottom⟩:Za)=d':=congrArg (·.1) h2
     have e2:(⟨true,x.2.1,x.2.2.1,x.2.2.2.1,x.2.2.2.2.1,x.2.2.2.2.2⟩:Zb)=t':=congrArg (·.2.1) h2
     subst e1;subst e2
     unfold ZaV at hx
     unfold Zae
     rw[hs]
     by_cases q0:t.at_=0
     ·rw[q0] at hx ⊢
      cases Option.some.inj hx
      rfl
     by_cases q1:t.at_=1
     ·rw[q1] at hx ⊢
      simp only[show((1:Int)==0)=false from rfl,show((1:Int)==1)=true from rfl,cF,cT] at hx ⊢
      by_cases q:d.bottom<=t.top
      ·rw[dT q] at hx ⊢
       cases Option.some.inj hx;rfl
      ·rw[dF q] at hx ⊢
       cases Option.some.inj hx;rfl
     by_cases q2:t.at_=2
     ·rw[q2] at hx ⊢
      simp only[show((2:Int)==0)=false from rfl,show((2:Int)==1)=false from rfl,show((2:Int)==2)=true from rfl,cF,cT,Zh0 (d:=⟨d.ring,d.top,d.bottom⟩) hd.len,bS,ZiD hd.len,ZqI hd.len] at hx ⊢
      cases Option.some.inj hx;rfl
     ·rw[beq_eq_false_iff_ne.2 q0,beq_eq_false_iff_ne.2 q1,beq_eq_false_iff_ne.2 q2] at hx ⊢
      simp only[cF] at hx ⊢
      unfold Zb8 at hx
      by_cases q:d.top=t.top
      ·rw[show(d.top != t.top)=false by rw[q];exact bne_self_eq_false _] at hx
       rw[show(d.top==t.top)=true from beq_iff_eq.2 q]
       cases Option.some.inj hx;rfl
      ·rw[show(d.top != t.top)=true from bne_iff_ne.2 q] at hx
       rw[show(d.top==t.top)=false from beq_eq_false_iff_ne.2 q]
       cases Option.some.inj hx;rfl
    ·rw[ZrO he,cT] at h
     have h2:=Option.some.inj h
     exact absurd (congrArg (·.2.2) h2) he
 ·intro hs
  rw[hs,cF] at h
  cases hx:Za5 d.top d.bottom t.at_ t.top t.bottom t.got t.end_ d.ring with
  | none=>rw[hx] at h;cases h
  | some x=>
   rw[hx,bS] at h
   cases hc:ZaG ⟨d.ring,x.1,x.2.1⟩ with
   | none=>rw[hc] at h;cases h
   | some e=>
    rw[hc,bS] at h
    by_cases he:e=0
    ·subst he
     rw[show((0:Int) != 0)=false from rfl,cF] at h
     have h2:=Option.some.inj h
     have e1:(⟨d.ring,x.1,x.2.1⟩:Za)=d':=congrArg (·.1) h2
     have e2:(⟨false,x.2.2.1,x.2.2.2.1,x.2.2.2.2.1,x.2.2.2.2.2.1,x.2.2.2.2.2.2⟩:Zb)=t':=congrArg (·.2.1) h2
     subst e1;subst e2
     unfold Za5 at hx
     unfold Zad
     rw[hs]
     by_cases q0:t.at_=0
     ·rw[q0] at hx ⊢
      cases Option.some.inj hx
      rfl
     by_cases q1:t.at_=1
     ·rw[q1] at hx ⊢
      simp only[show((1:Int)==0)=false from rfl,show((1:Int)==1)=true from rfl,cF,cT] at hx ⊢
      by_cases q:d.top<t.bottom
      ·rw[dT q] at hx ⊢
       simp only[cT,Zh0 (d:=⟨d.ring,d.top,d.bottom⟩) hd.len,bS,ZiD hd.len,ZqI hd.len] at hx ⊢
       cases Option.some.inj hx;rfl
      ·rw[dF q] at hx ⊢
       simp only[cF] at hx ⊢
       cases hb:d.top==t.bottom with
       | true=>rw[hb] at hx;cases Option.some.inj hx;rfl
       | false=>rw[hb] at hx;cases Option.some.inj hx;rfl
     by_cases q2:t.at_=2
     ·rw[q2] at hx ⊢
      simp only[show((2:Int)==0)=false from rfl,show((2:Int)==1)=false from rfl,show((2:Int)==2)=true from rfl,cF,cT] at hx ⊢
      unfold Zb8 at hx
      by_cases q:d.top=t.top
      ·rw[show(d.top != t.top)=false by rw[q];exact bne_self_eq_false _] at hx
       rw[show(d.top==t.top)=true from beq_iff_eq.2 q]
       simp only[cF,cT,bS,Zh0 (d:=⟨d.ring,w64 (d.top+1),d.bottom⟩) hd.len,ZiD hd.len,ZqI (d:=⟨d.ring,w64 (d.top+1),d.bottom⟩) hd.len] at hx ⊢
       cases Option.some.inj hx;rfl
      ·rw[show(d.top != t.top)=true from bne_iff_ne.2 q] at hx
       rw[show(d.top==t.top)=false from beq_eq_false_iff_ne.2 q]
       cases Option.some.inj hx;rfl
     ·rw[beq_eq_false_iff_ne.2 q0,beq_eq_false_iff_ne.2 q1,beq_eq_false_iff_ne.2 q2] at hx ⊢
      simp only[cF] at hx ⊢
      by_cases q4:t.at_=4
      ·rw[q4] at hx ⊢
       cases Option.some.inj hx;rfl
      ·have q3:t.at_=3:=by omega
       rw[q3] at hx ⊢
       cases Option.some.inj hx;rfl
    ·rw[ZrO he,cT] at h
     have h2:=Option.some.inj h
     exact absurd (congrArg (·.2.2) h2) he
theorem Zu5 {d d':Za}{t t':Zb} (hd:ZkX d) (ht:Zw3 t) (hd':ZkX d') (h:Zag d t=some (d',t',0)):ZdZ d t=some (d',t',0):=by
 obtain⟨k1,k2⟩:=Zza hd ht h
 have a0:=ht.a0;have a4:=ht.a4;have rx:=ht.rx;have ry:=ht.ry
 unfold ZdZ
 simp only[ZhR hd,bS,cT,dF (show ¬t.top < -1 by omega),dF (show ¬(1099511627775:Int)<t.top by omega),dF (show ¬t.bottom < -1 by omega),dF (show ¬(1099511627775:Int)<t.bottom by omega),cF,ht.en,show((0:Int) != 0)=false from rfl,dF (show ¬t.at_<0 by omega),dF (show ¬4<t.at_ by omega)]
 cases hs:t.steal with
 | true=>
  have a3:=ht.a3 hs
  simp only[cT,dF (show ¬3<t.at_ by omega),cF,k1 hs,bS,ZhR hd']
  cases decide (0<t.at_)<;>rfl
 | false=>
  simp only[cF,k2 hs,bS,ZhR hd',cT]
  cases decide (0<t.at_)<;>rfl
theorem ZGO {g:Zj}{m:Nat}{left on fs:List Int}{ds:List Za}{ts:List Zb} (G:GangIn g m left on ds ts fs) {c:Nat}{t:Zb} (hts:ts[c]? = some t):Zw3 t:=by
 have hc:c<m:=by rw[<- G.tl];exact(gQ hts).1
 have p:=G.inv.pos c hc
 obtain⟨f,hfs⟩:∃f,fs[c]? = some f:=⟨_,gE (by rw[G.fl];exact hc)⟩
 have qF:(vw on ds ts fs).F c=f.toNat:=ZO hfs
 have qa:(vw on ds ts fs).a c=t.at_:=ZO hts
 have qx:(vw on ds ts fs).x c=t.top:=ZO hts
 have qy:(vw on ds ts fs).y c=t.bottom:=ZO hts
 have h0:=G.f0 f (mG hfs)
 have hst:=G.st c t f hts hfs
 have pa0:=p.a0;have pa4:=p.a4;have pa3:=p.a3;have prx:=p.rx;have pry:=p.ry
 rw[qa] at pa0 pa4 pa3
 rw[qF] at pa3
 rw[qx] at prx
 rw[qy] at pry
 exact⟨G.en t (mG hts),pa0,pa4,fun hs=>pa3 (by
  rw[hst] at hs
  have:f≠0:=by simpa using hs
  omega),prx,pry⟩
theorem Zw5 {α:Type}{l:List α}{i:Nat}{x:α} (h:l[i]? = some x):l.set i x=l:=by
 apply List.ext_getElem?
 intro j
 rw[List.getElem?_set]
 split
 ·rename_i e
  subst e
  rw[if_pos (gQ h).1,h]
 ·rfl
theorem ZDs {on left fs:List Int}{ds:List Za}{ts:List Zb}{v:Nat}{d d2:Za} (hl:ds.length<=1000) (h:ds[v]? = some d):ZaE ⟨⟨on,left⟩,ds,ts,fs⟩ (v:Int) d2=some ⟨⟨on,left⟩,ds.set v d2,ts,fs⟩:=by
 unfold ZaE
 rw[Zar (show ds.length<=1073741824 by omega),cT,Zn h,bS,toNat_natCast]
theorem Zx9 {on left fs:List Int}{ds:List Za}{ts:List Zb}{c:Nat}{t t2:Zb}{f f2:Int} (hl:ts.length<=1000) (hl2:fs.length<=1000) (h:ts[c]? = some t) (h2:fs[c]? = some f):Zab ⟨⟨on,left⟩,ds,ts,fs⟩ (c:Int) t2 f2=some ⟨⟨on,left⟩,ds,ts.set c t2,fs.set c f2⟩:=by
 unfold Zab
 rw[Zar (show ts.length<=1073741824 by omega),Zar (show fs.length<=1073741824 by omega),cT,cT,Zn h,bS,Zn h2,bS,toNat_natCast]
theorem Zu3 {g:Zj}{m c:Nat}{left on fs on' fs':List Int}{ds ds':List Za}{ts ts':List Zb} (h:ZM g=0) (G:GangIn g m left on ds ts fs) (hc:c<m) (G':GangIn g m left on' ds' ts' fs')
  (hst:Z9 (c:Int) g.work g.edges on left ds ts fs=some (0,on',ds',ts',fs')):ZdU g ⟨⟨on,left⟩,ds,ts,fs⟩ (c:Int)=some (⟨⟨on',left⟩,ds',ts',fs'⟩,0):=by
 have hm:0<m:=by omega
 have h8:m<=8:=by rw[<- G.ol];exact G.crew.o8
 obtain⟨f,hfs⟩:∃f,fs[c]? = some f:=⟨_,gE (by rw[G.fl];exact hc)⟩
 obtain⟨t,hts⟩:∃t,ts[c]? = some t:=⟨_,gE (by rw[G.tl];exact hc)⟩
 have h0:=G.f0 f (mG hfs)
 have hf:f<(m:Int):=by
  have pF:=(G.inv.pos c hc).F
  have qF:(vw on ds ts fs).F c=f.toNat:=ZO hfs
  rw[qF] at pF
  omega
 have hvm:=Zpk hm c f.toNat
 have hvd:vic m c f.toNat<ds.length:=by rw[G.dl];exact hvm
 obtain⟨d,hds⟩:∃d,ds[vic m c f.toNat]? = some d:=⟨_,gE hvd⟩
 have hd:=Zte G hds
 have ht:=ZGO G hts
 have hvic:(vic m c f.toNat:Int)=if (m:Int)<=(c:Int)+f then (c:Int)+f-m else (c:Int)+f:=by
  unfold vic
  by_cases q:(m:Int)<=(c:Int)+f
  ·rw[if_pos q,Nat.mod_eq_sub_mod (by omega),mod_eq_of_lt (by omega)];omega
  ·rw[if_neg q,mod_eq_of_lt (by omega)];omega
 have hvt:=ZxH (m:=m) (c:=c) (f:=f) hm h8 hc h0 hf
 have hW:w64 ((c:Int)+f)=(c:Int)+f:=Zcm (by omega)
 have hol:=G.ol;have htl:=G.tl;have hfl:=G.fl;have hdl:=G.dl
 have hfs2:(fs.set c f)[c]? = some f:=by rw[Zw5 hfs];exact hfs
 have one:∀(d2:Za) (t2:Zb),ZdZ d t=some (d2,t2,0) ->
   (t2.end_=0->ZdU g ⟨⟨on,left⟩,ds,ts,fs⟩ (c:Int)=some (⟨⟨on,left⟩,ds.set (vic m c f.toNat) d2,ts.set c t2,fs⟩,0)) /\
   (t2.end_=2∨t2.end_=3->ZdU g ⟨⟨on,left⟩,ds,ts,fs⟩ (c:Int)=some (⟨⟨on,left⟩,ds.set (vic m c f.toNat) d2,ts.set c ⟨(((f.toNat+1) % m:Nat):Int) != 0,0,0,0,0,0⟩,fs.set c (((f.toNat+1) % m:Nat):Int)⟩,0)) /\
   (t2.end_=1->t2.got∈ZX g.edges left on->ZdU g ⟨⟨on,left⟩,ds,ts,fs⟩ (c:Int)=some (⟨⟨on.set c t2.got,left⟩,ds.set (vic m c f.toNat) d2,ts.set c ⟨false,0,0,0,0,0⟩,fs.set c 0⟩,0)):=by
  intro d2 t2 hs
  have hw1:w64 (f+1)=f+1:=Zcm (by omega)
  have wD:=ZDs (on:=on) (left:=left) (fs:=fs) (ts:=ts) (d2:=d2) (show ds.length<=1000 by omega) hds
  have wT:=fun(t3:Zb) (f3:Int)=>Zx9 (on:=on) (left:=left) (ds:=ds.set (vic m c f.toNat) d2) (t2:=t3) (f2:=f3) (show ts.length<=1000 by omega) (show fs.length<=1000 by omega) hts hfs
  have hts2:(ts.set c t2)[c]? = some t2:=by rw[List.getElem?_set,if_pos rfl,if_pos (by omega)]
  have wT2:=fun(t3:Zb) (f3:Int)=>Zx9 (on:=on) (left:=left) (ds:=ds.set (vic m c f.toNat) d2) (ts:=ts.set c t2) (fs:=fs.set c f) (t2:=t3) (f2:=f3) (by rw[length_set];omega) (by rw[length_set];omega) hts2 hfs2
  simp only[set_set] at wT2
  have hon:=gE (show c<on.length by omega)
  have hrdy:=Zk6 (ZT h).1 G.crew
  have hmod:(((f.toNat+1) % m:Nat):Int)=if f+1=(m:Int) then 0 else f+1:=by
   by_cases q:f+1=(m:Int)
   ·rw[if_pos q,show f.toNat+1=m by omega,Nat.mod_self];rfl
   ·rw[if_neg q,mod_eq_of_lt (by omega)];omega
  unfold ZdU
  rw[Zn hfs,bS]
  dsimp only
  rw[hol,hW]
  by_cases q:(m:Int)<=(c:Int)+f
  ·rw[if_pos q] at hvic
   have hV:w64 ((c:Int)+f-(m:Int))=(vic m c f.toNat:Int):=by rw[Zcm (by omega),hvic]
   rw[dT q,cT,hV,Zn hds,bS,Zn hts,bS,hs,bS]
   simp only[show((0:Int) != 0)=false from rfl,cF,wD,wT,bS]
   refine⟨fun he=>?_,fun he=>?_,fun he hg=>?_⟩
   ·rw[he,show((0:Int)==0)=true from rfl,cT,Zw5 hfs]
   ·have e0:(t2.end_==0)=false:=beq_eq_false_iff_ne.2 (by omega)
    have e1:(t2.end_ != 1)=true:=bne_iff_ne.2 (by omega)
    simp only[e0,e1,cF,cT,Zn hfs2,bS,hw1,wT2]
    by_cases qm:f+1=(m:Int)
    ·rw[if_pos qm] at hmod
     rw[beq_iff_eq.2 qm,cT,hmod];rfl
    ·rw[if_neg qm] at hmod
     rw[beq_eq_false_iff_ne.2 qm,cF,dT (show 0<f+1 by omega),cT,hmod,ZrO (show f+1≠0 by omega)]
   ·have e0:(t2.end_==0)=false:=beq_eq_false_iff_ne.2 (by omega)
    have e1:(t2.end_ != 1)=false:=by rw[he];rfl
    simp only[e0,e1,cF,hrdy,bS,Zky _ _ (show(ZX g.edges left on).length<9223372036854775808 by have:=ZeA g.edges left on;have:=G.crew.ll;have:=(ZT h).1.wl;omega),ZhQ,dT hg,cT,Zar (show on.length<=1073741824 by omega),Zn hon]
    unfold ZbI
    rw[Zar (show(ts.set c t2).length<=1073741824 by rw[length_set];omega),Zar (show(fs.set c f).length<=1073741824 by rw[length_set];omega),cT,cT,Zn hts2,bS,Zn hfs2,bS,bS,toNat_natCast,set_set,set_set]
  ·rw[if_neg q] at hvic
   rw[dF q,cF,<- hvic,Zn hds,bS,Zn hts,bS,hs,bS]
   simp only[show((0:Int) != 0)=false from rfl,cF,wD,wT,bS]
   refine⟨fun he=>?_,fun he=>?_,fun he hg=>?_⟩
   ·rw[he,show((0:Int)==0)=true from rfl,cT,Zw5 hfs]
   ·have e0:(t2.end_==0)=false:=beq_eq_false_iff_ne.2 (by omega)
    have e1:(t2.end_ != 1)=true:=bne_iff_ne.2 (by omega)
    simp only[e0,e1,cF,cT,Zn hfs2,bS,hw1,wT2]
    by_cases qm:f+1=(m:Int)
    ·rw[if_pos qm] at hmod
     rw[beq_iff_eq.2 qm,cT,hmod];rfl
    ·rw[if_neg qm] at hmod
     rw[beq_eq_false_iff_ne.2 qm,cF,dT (show 0<f+1 by omega),cT,hmod,ZrO (show f+1≠0 by omega)]
   ·have e0:(t2.end_==0)=false:=beq_eq_false_iff_ne.2 (by omega)
    have e1:(t2.end_ != 1)=false:=by rw[he];rfl
    simp only[e0,e1,cF,hrdy,bS,Zky _ _ (show(ZX g.edges left on).length<9223372036854775808 by have:=ZeA g.edges left on;have:=G.crew.ll;have:=(ZT h).1.wl;omega),ZhQ,dT hg,cT,Zar (show on.length<=1073741824 by omega),Zn hon]
    unfold ZbI
    rw[Zar (show(ts.set c t2).length<=1073741824 by rw[length_set];omega),Zar (show(fs.set c f).length<=1073741824 by rw[length_set];omega),cT,cT,Zn hts2,bS,Zn hfs2,bS,bS,toNat_natCast,set_set,set_set]
 have hst0:=hst
 unfold Z9 at hst
 rw[Zn hfs,bS,hol,show((m:Int)==0)=false from beq_eq_false_iff_ne.2 (by omega),cF,hvt,Zn hds,bS,Zn hts,bS] at hst
 cases hD:Zag d t with
 | none=>rw[hD] at hst;cases hst
 | some x=>
  obtain⟨d2,t2,e⟩:=x
  rw[hD,bS] at hst
  by_cases he:e=0
  ·subst he
   have fin:ds'=ds.set (vic m c f.toNat) d2->ZdZ d t=some (d2,t2,0):=fun e1=>by
    refine Zu5 hd ht (Zte G' (i:=vic m c f.toNat) ?_) hD
    rw[e1,List.getElem?_set,if_pos rfl,if_pos hvd]
   by_cases e1:t2.end_=1
   ·have hR:=Zkx h G.crew
    have hRl:(ZX g.edges left on).length<9223372036854775808:=by have:=ZeA g.edges left on;have:=G.crew.ll;have:=(ZT h).1.wl;omega
    by_cases hg:t2.got∈ZX g.edges left on
    ·have:=Ztg (left:=left) hm h8 hc hol htl hfl h0 hf hfs hds hts hD e1 hR hRl hg
     rw[this] at hst0
     cases Option.some.inj hst0
     exact(one d2 t2 (fin rfl)).2.2 e1 hg
    ·simp only[e1,show((0:Int) != 0)=false from rfl,show((1:Int)==1)=true from rfl,cF,cT,hR,bS,Zhd _ _ hRl,ZhQ,dF hg] at hst
     have h2:=Option.some.inj hst
     exact absurd (show(130:Int)=0 from congrArg (·.1) h2) (by decide)
   ·by_cases e2:t2.end_=2∨t2.end_=3
    ·have:=Zq3 (left:=left) (E:=g.edges) (work:=g.work) hm h8 hc hol htl hfl h0 hf hfs hds hts hD e2
     rw[this] at hst0
     cases Option.some.inj hst0
     exact(one d2 t2 (fin rfl)).2.1 e2
    ·have e0:t2.end_=0:=by
      simp only[show((0:Int) != 0)=false from rfl,show(t2.end_==1)=false from beq_eq_false_iff_ne.2 e1,show(t2.end_==2)=false from beq_eq_false_iff_ne.2 fun e=>e2 (.inl e),show(t2.end_==3)=false from beq_eq_false_iff_ne.2 fun e=>e2 (.inr e),cF,toNat_natCast] at hst
      have h2:=Option.some.inj hst
      have h3:ts.set c t2=ts':=congrArg (·.2.2.2.1) h2
      refine G'.en t2 ?_
      rw[<- h3]
      exact mG (i:=c) (by rw[List.getElem?_set,if_pos rfl,if_pos (by omega)])
     have:=Ztv (left:=left) (E:=g.edges) (work:=g.work) hm h8 hc hol h0 hf hfs hds hts hD e0
     rw[this] at hst0
     cases Option.some.inj hst0
     exact(one d2 t2 (fin rfl)).1 e0
  ·dsimp only at hst
   rw[ZrO he,cT] at hst
   have h2:=Option.some.inj hst
   exact absurd (show(130:Int)=0 from congrArg (·.1) h2) (by decide)
section
theorem ZuA {S R S' R':Type}{f:S->Option (S⊕R)}{g:S'->Option (S'⊕R')} (φ:S->S'->Prop) (ψ:R->R'->Prop)
  (h:∀s s',φ s s'->∀t,f s=some t->∃t',g s'=some t'/\(match t,t' with | .inl a,.inl b=>φ a b | .inr a,.inr b=>ψ a b | _,_=>False)) {s:S} {s':S'} {r:R} (h0:φ s s') (hr:lp f s=some r):∃r',lp g s'=some r'/\ψ r r':=by
 obtain⟨n,hn⟩:=Zx2 hr
 clear hr
 induction n generalizing s s' r with
 | zero=>cases hn
 | succ n ih=>
  unfold lpN at hn
  cases hf:f s with
  | none=>rw[hf] at hn;cases hn
  | some t=>
   rw[hf] at hn
   obtain⟨t',g1,g2⟩:=h s s' h0 t hf
   cases t with
   | inl a=>
    cases t' with
    | inr b=>exact absurd g2 id
    | inl b=>
     obtain⟨r',q1,q2⟩:=ih g2 hn
     exact⟨r',by rw[ZAy g1];exact q1,q2⟩
   | inr a=>
    cases t' with
    | inl b=>exact absurd g2 id
    | inr b=>
     have e:some a=some r:=hn
     cases e
     exact⟨b,ZDX g1,g2⟩
theorem ZwC {d:Za} (h:ZkX d):∃l,ZgV d=some l/\l.length=(d.bottom-d.top).toNat:=by
 have:=h.t0;have:=h.t1;have:=h.b0;have:=h.b1
 have hw:w64 (d.bottom-d.top)=d.bottom-d.top:=Zcm (by omega)
 have key:∀(k i:Nat) (out:List Int),i+k=(d.bottom-d.top).toNat->out.length=i->∃r,lp (Zco d) ((i:Int),out)=some r/\r.length=(d.bottom-d.top).toNat:=by
  intro k
  induction k with
  | zero=>
   intro i out hi ho
   rw[Zaj]
   simp only[Zco,hw,dF (show ¬(i:Int)<d.bottom-d.top by omega),cF]
   exact⟨out,rfl,by omega⟩
  | succ k ih=>
   intro i out hi ho
   rw[Zaj]
   simp only[Zco,hw,dT (show(i:Int)<d.bottom-d.top by omega),cT,ZqI h.len,bS,Zar (show out.length+1<=1073741824 by omega),Zcm (n:=(i:Int)+1) (by omega)]
   exact ih (i+1) _ (by omega) (by rw[lA,length_singleton,ho])
 obtain⟨r,q1,q2⟩:=key (d.bottom-d.top).toNat 0 [] (by omega) rfl
 exact⟨r,by unfold ZgV;rw[show lp (Zco d) (0,([]:List Int))=_ from q1];rfl,q2⟩
theorem Zxx:∀(l:List Za) (i:Nat) (s:Int),0<=s->0<=Zex (fun _ (s:Int) (d:Za)=>s+((d.bottom-d.top).toNat:Int)) i s l/\decide (0<Zex (fun _ (s:Int) (d:Za)=>s+((d.bottom-d.top).toNat:Int)) i s l)=(decide (0<s) || l.any fun d=>decide (d.top<d.bottom))
 | [],_,s,h=>⟨h,by rw[List.any_nil,Bool.or_false];rfl⟩
 | d :: l,i,s,h=>by
  unfold Zex
  obtain⟨h1,h2⟩:=Zxx l (i+1) (s+((d.bottom-d.top).toNat:Int)) (by omega)
  refine⟨h1,?_⟩
  rw[h2,List.any_cons,<- Bool.or_assoc]
  congr 1
  by_cases q:d.top<d.bottom
  ·rw[dT q,Bool.or_true,dT (by omega)]
  ·rw[dF q,Bool.or_false]
   exact decide_eq_decide.2 (by omega)
section
variable {g:Zj} {m:Nat} {on left fs:List Int} {ds:List Za} {ts:List Zb}
theorem ZC3 (G:GangIn g m left on ds ts fs) {n:Int} (h:n∈on):n = -1∨isN left n:=(G.crew.ok.run n h).imp id fun h=>h.1
theorem ZwU (G:GangIn g m left on ds ts fs):ZgP ⟨⟨on,left⟩,ds,ts,fs⟩=some (wlV m (vw on ds ts fs)):=by
 have h8:m<=8:=by rw[<- G.ol];exact G.crew.o8
 have hol:=G.ol;have htl:=G.tl;have hdl:=G.dl
 have l0:=(ZlF ds (Zcp ⟨⟨on,left⟩,ds,ts,fs⟩) (fun i s=>(s,(i:Int))) (fun _ (s:Int) (d:Za)=>s+((d.bottom-d.top).toNat:Int)) id (fun i s=>0<=s/\s<=65*(i:Int)) (fun i d s hi hd hI=>by
   have hq:=Zte G hd
   have:=hq.t0;have:=hq.b1
   obtain⟨l,q1,q2⟩:=ZwC hq
   obtain⟨i1,i2⟩:=hI
   refine⟨?_,by omega,by omega⟩
   simp only[Zcp,ZaU hi,cT,Zn hd,bS,q1,q2,ZA hi (by omega),Zcm (n:=s+((d.bottom-d.top).toNat:Int)) (by omega)]) (fun s _=>by simp only[Zcp,ZaY,cF];rfl) 0 (by simp)).1
 have hany:=(Zxx ds 0 0 (le_refl _)).2
 rw[ZuU hdl on ts fs] at hany
 unfold ZgP
 rw[show lp (Zcp ⟨⟨on,left⟩,ds,ts,fs⟩) (0,0)=_ from l0,bS]
 dsimp only[id]
 generalize Zex (fun _ (s:Int) (d:Za)=>s+((d.bottom-d.top).toNat:Int)) 0 0 ds=r3 at hany
 have hany:decide (0<r3)=Zqa m (vw on ds ts fs):=hany
 have l1:=ZkO (n:=m) (Zdw ⟨⟨on,left⟩,ds,ts,fs⟩ r3) (fun i=>decide ((vw on ds ts fs).O i = -1)&&(Zqa m (vw on ds ts fs) || !decide ((vw on ds ts fs).a i=0))) (fun i out hi ho=>by
   have hx:=gE (show i<on.length by omega)
   have ht:=gE (show i<ts.length by omega)
   have hr:=ZC3 G (getElem_mem (show i<on.length by omega))
   have qO:(vw on ds ts fs).O i=on[i]:=ZO hx
   have qa:(vw on ds ts fs).a i=ts[i].at_:=ZO ht
   have hneg:decide (on[i]<0)=decide ((vw on ds ts fs).O i = -1):=by
    rw[qO]
    refine decide_eq_decide.2 ⟨fun h=>?_,fun h=>by omega⟩
    rcases hr with hr | hr
    ·exact hr
    ·have:=hr.1;omega
   have hat:(ts[i].at_ != 0) = !decide ((vw on ds ts fs).a i=0):=by
    rw[qa]
    by_cases q:ts[i].at_=0
    ·rw[q];rfl
    ·rw[dF q];exact bne_iff_ne.2 q
   simp only[Zdw,hol,ZaU hi,cT,Zn hx,Zn ht,bS,hneg,hany,hat,Zar (show out.length+1<=1073741824 by omega),ZA hi (by omega)]
   cases decide ((vw on ds ts fs).O i = -1)<;>cases Zqa m (vw on ds ts fs)<;>cases decide ((vw on ds ts fs).a i=0)<;>rfl) (fun out=>by simp only[Zdw,hol,ZaY,cF])
 rw[l1]
 rfl
theorem Zs9 (last x:Int):∀(l:List Int) (i:Nat),Zjw last i (l++[x])=(match Zjw last i l with | some j=>some j | none=>if last<x then some (i+l.length) else none)
 | [],i=>by simp[Zjw]
 | y :: l,i=>by
  show(if last<y then some i else Zjw last (i+1) (l++[x]))=(match (if last<y then some i else Zjw last (i+1) l) with | some j=>some j | none=>if last<x then some (i+(l.length+1)) else none)
  by_cases h:last<y
  ·rw[if_pos h,if_pos h]
  ·rw[if_neg h,if_neg h,Zs9 last x l (i+1),show i+1+l.length=i+(l.length+1) by omega]
theorem Zus {l:List Int}{s0:Int×Int×(List Int)×(List Int)×(List Za)×(List Zb)×(List Int)} (hl:l.length<=1000):∀(k:Nat) (core:Int),k<=l.length->lp (Zd5 s0 l) (core,(k:Int)-1)=some (match Zjw s0.1 0 (l.take k) with | some j=>gt id 0 l j | none=>core)
 | 0,core,_=>by
  rw[Zaj]
  rfl
 | k+1,core,hk=>by
  have hx:=gE (show k<l.length by omega)
  have ht:l.take (k+1)=l.take k++[l[k]]:=by rw[List.take_add_one,hx];rfl
  have hg:gt id 0 l k=l[k]:=ZO hx
  rw[ht,Zs9,length_take,Nat.min_eq_left (by omega),zero_add,Zaj]
  simp only[Zd5,show((k+1:Nat):Int)-1=(k:Int) by omega,dT (show(0:Int)<=(k:Int) by omega),cT,Zn hx,bS,Zcm (n:=(k:Int)-1) (by omega)]
  by_cases q:s0.1<l[k]
  ·rw[dT q,cT,if_pos q]
   dsimp only
   rw[Zus hl k _ (by omega)]
   cases Zjw s0.1 0 (l.take k) with
   | some j=>rfl
   | none=>dsimp only;rw[hg]
  ·rw[dF q,cF,if_neg q]
   dsimp only
   rw[Zus hl k _ (by omega)]
   cases Zjw s0.1 0 (l.take k)<;>rfl
theorem ZBY {l:List Int}{s0:Int×Int×(List Int)×(List Int)×(List Za)×(List Zb)×(List Int)} (hl:l.length<=1000) {x:Int} (h:l[0]? = some x):lp (Zd5 s0 l) (x,w64 ((l.length:Int)-1))=some (gt id 0 l (nxI l s0.1)):=by
 have h0:=(gQ h).1
 have:=Zus (s0:=s0) hl l.length x (Nat.le_refl _)
 rw[List.take_length] at this
 rw[Zcm (by omega),this]
 unfold nxI
 cases Zjw s0.1 0 l with
 | some j=>rfl
 | none=>dsimp only;rw[ZO h];rfl
theorem Zzy {l picks:List Int}{last n x:Int} (hl:l.length<=1000) (h0:0<l.length) (h:ZaS last l picks n=some x) :
  x∈l/\(bif decide (n<(picks.length:Int)) then (Zt picks n).bind fun k=>bif ((l.length:Int)==0) then none else Zt l (Int.tmod (bif decide (k<0) then 0 else k) (l.length:Int)) else some (gt id 0 l (nxI l last)))=some x:=by
 unfold ZaS at h
 by_cases q:n<(picks.length:Int)
 ·rw[dT q,cT] at h ⊢
  cases hk:Zt picks n with
  | none=>rw[hk] at h;cases h
  | some k=>
   rw[hk,bS,show((l.length:Int)==0)=false from beq_eq_false_iff_ne.2 (by omega),cF] at h
   rw[bS,show((l.length:Int)==0)=false from beq_eq_false_iff_ne.2 (by omega),cF]
   cases hx:Zt l (Int.tmod (bif decide (k<0) then 0 else k) (l.length:Int)) with
   | none=>rw[hx] at h;cases h
   | some y=>
    rw[hx] at h
    cases Option.some.inj h
    exact⟨mG (Zi2 _ _ _ hx).2.2,rfl⟩
 ·rw[dF q,cF] at h ⊢
  rw[ZuN l last (by omega),bS] at h
  have hsp:=Zmr last l 0
  have fin:∀j:Nat,Zt l (j:Int)=some x->j<l.length->x∈l/\gt id 0 l j=x:=fun j hj hjl=>by
   have:=(Zi2 _ _ _ hj).2.2
   rw[toNat_natCast] at this
   exact⟨mG this,ZO this⟩
  unfold nxI
  cases hf:Zjw last 0 l with
  | none=>
   rw[hf] at h
   dsimp only at h
   rw[dT (show(-1:Int)<0 by omega),cT] at h
   cases hx:Zt l 0 with
   | none=>rw[hx] at h;cases h
   | some y=>
    rw[hx] at h
    cases Option.some.inj h
    obtain⟨a1,a2⟩:=fin 0 hx h0
    exact⟨a1,congrArg some a2⟩
  | some j=>
   rw[hf] at h hsp
   dsimp only at h
   rw[dF (show ¬(j:Int)<0 by omega),cF] at h
   obtain⟨_,y,hy,_⟩:=hsp
   have hjl:j<l.length:=by have:=(gQ hy).1;omega
   cases hx:Zt l (j:Int) with
   | none=>rw[hx] at h;cases h
   | some y=>
    rw[hx] at h
    cases Option.some.inj h
    obtain⟨a1,a2⟩:=fin j hx hjl
    exact⟨a1,congrArg some a2⟩
def ZH7 (g:Zj) (m:Nat) (left:List Int) (s:Int×(List Int)×Int×(List Int)×(List Za)×(List Zb)×(List Int)) (s':Int×Int×(List Int)×(List Int)×(List Za)×(List Zb)×(List Int)):Prop:=
 ∃n last on ds ts fs,s=(n,wlV m (vw on ds ts fs),last,on,ds,ts,fs)/\s'=(last,n,on,left,ds,ts,fs)/\GangIn g m left on ds ts fs
def ZGd (left:List Int) (r:(Int×Int×Int×(List Int)×(List Za)×(List Zb)×(List Int))⊕(Int×Int×(List Int)×(List Za)×(List Zb)×(List Int))) (r':(Int×(List Int)×(List Int)×(List Za)×(List Zb)×(List Int))⊕Int):Prop:=
 ∃n last on ds ts fs,r = .inr (n,last,on,ds,ts,fs)/\r' = .inl (n,on,left,ds,ts,fs)
theorem Zzg (h:ZM g=0) {picks:List Int} (G:GangIn g m left on ds ts fs) {n l:Int}{on' fs':List Int}{ds':List Za}{ts':List Zb} (hc:ZbR picks g.work g.edges on left ds ts fs=some (n,0,l,on',ds',ts',fs')) :
  ZhJ g ⟨⟨on,left⟩,ds,ts,fs⟩ picks=some (⟨⟨on',left⟩,ds',ts',fs'⟩,n,0):=by
 have h8:m<=8:=by rw[<- G.ol];exact G.crew.o8
 unfold ZbR at hc
 rw[ZqR (fs:=fs) G.ol G.dl G.tl h8,bS] at hc
 cases hr:lp (ZaC picks g.work g.edges left) (0,wlV m (vw on ds ts fs), -1,on,ds,ts,fs) with
 | none=>rw[hr] at hc;cases hc
 | some r=>
  rw[hr,bS] at hc
  obtain⟨r',q1,q2⟩:=ZuA (g:=Zee g picks) (ZH7 g m left) (ZGd left) (fun s s' hs t ht=>by
   obtain⟨n,last,on,ds,ts,fs,rfl,rfl,G⟩:=hs
   have hwl:=Zyg m (vw on ds ts fs)
   have hW:=ZwU G
   unfold Zee
   dsimp only
   rw[hW,bS]
   unfold ZaC at ht
   dsimp only at ht
   by_cases h0:0<(wlV m (vw on ds ts fs)).length
   ·rw[dT (show(0:Int)<((wlV m (vw on ds ts fs)).length:Int) by omega),cT] at ht
    rw[show(((wlV m (vw on ds ts fs)).length:Int)==0)=false from beq_eq_false_iff_ne.2 (by omega),cF]
    cases hx:ZaS last (wlV m (vw on ds ts fs)) picks n with
    | none=>rw[hx] at ht;cases ht
    | some x=>
     rw[hx,bS] at ht
     obtain⟨xm,xe⟩:=Zzy (by omega) h0 hx
     obtain⟨x0,xw⟩:=Zji.1 xm
     obtain⟨on1,ds1,ts1,fs1,p1,p2,p3⟩:=ZCK h G xw.1 xw.2.1
     have hone:=Zu3 h G xw.1 p2 p1
     rw[toNat_of_nonneg x0] at p1 hone
     rw[p1,bS] at ht
     dsimp only at ht
     rw[show((0:Int) != 0)=false from rfl,cF,ZqR (fs:=fs1) p2.ol p2.dl p2.tl h8,bS] at ht
     cases Option.some.inj ht
     refine⟨.inl (x,w64 (n+1),on1,left,ds1,ts1,fs1),?_,w64 (n+1),x,on1,ds1,ts1,fs1,rfl,rfl,p2⟩
     obtain⟨y,hy⟩:∃y,(wlV m (vw on ds ts fs))[0]? = some y:=⟨_,gE h0⟩
     have hy':Zt (wlV m (vw on ds ts fs)) 0=some y:=Zn (i:=0) hy
     rw[hy',bS,ZBY (by omega) hy,bS]
     by_cases q:n<(picks.length:Int)
     ·rw[dT q,cT] at xe ⊢
      cases hk:Zt picks n with
      | none=>rw[hk] at xe;cases xe
      | some k=>
       rw[hk,bS,show(((wlV m (vw on ds ts fs)).length:Int)==0)=false from beq_eq_false_iff_ne.2 (by omega),cF] at xe
       rw[bS,cF,xe,bS,hone]
       rfl
     ·rw[dF q,cF] at xe ⊢
      rw[Option.some.inj xe,hone]
      rfl
   ·rw[dF (show ¬(0:Int)<((wlV m (vw on ds ts fs)).length:Int) by omega),cF] at ht
    rw[show(((wlV m (vw on ds ts fs)).length:Int)==0)=true from beq_iff_eq.2 (by omega),cT]
    cases Option.some.inj ht
    exact⟨_,rfl,n,last,on,ds,ts,fs,rfl,rfl⟩) ⟨0, -1,on,ds,ts,fs,rfl,rfl,G⟩ hr
  obtain⟨n2,last2,on2,ds2,ts2,fs2,rfl,rfl⟩:=q2
  cases Option.some.inj hc
  unfold ZhJ
  rw[show lp (Zee g picks) (-1,0,on,left,ds,ts,fs)=_ from q1]
  rfl
end
end
section
theorem Znz {γ S:Type}{f:Nat->S->γ->S}:∀{l:List γ}{i:Nat}{s:S},(∀(j:Nat) y s,l[j]? = some y->f (i+j) s y=s)->Zex f i s l=s
 | [],_,_,_=>rfl
 | x :: l,i,s,h=>by
  unfold Zex
  rw[show f i s x=s from h 0 x s rfl]
  exact Znz fun j y s hy=>by rw[show i+1+j=i+(j+1) by omega];exact h (j+1) y s hy
theorem Zr6 {γ S:Type}{f:Nat->S->γ->S}:∀{l:List γ}{i j0:Nat}{s:S}{x:γ},l[j0]? = some x->(∀(j:Nat) y s,l[j]? = some y->j≠j0->f (i+j) s y=s)->Zex f i s l=f (i+j0) s x
 | [],_,_,_,_,h,_=>by simp at h
 | y :: l,i,0,s,x,h,hn=>by
  cases Option.some.inj (show some y=some x from h)
  unfold Zex
  exact Znz fun j z s hz=>by rw[show i+1+j=i+(j+1) by omega];exact hn (j+1) z s hz (by omega)
 | y :: l,i,j0+1,s,x,h,hn=>by
  unfold Zex
  rw[show f i s y=s from hn 0 y s rfl (by omega)]
  have:=Zr6 (i:=i+1) (s:=s) (show l[j0]? = some x from h) fun j z s hz hj=>by rw[show i+1+j=i+(j+1) by omega];exact hn (j+1) z s hz (by omega)
  rw[this,show i+1+j0=i+(j0+1) by omega]
section
variable {g:Zj} {left row:List Int}
structure Zva (left row:List Int) (i:Nat) (done on' left':List Int):Prop where
 ll:left'.length=left.length
 lv:∀k:Nat,k<left.length->left'[k]? = some (if k<i then lf (ZJ left row) (k:Int) else lf left (k:Int))
 ol:on'.length=row.length
 ov:∀(j:Nat) n,row[j]? = some n->on'[j]? = some (if 0<=n/\n<(i:Int) then Zeu left row n else n)
 dn:∀z,z∈done↔z∈row/\0<=z/\z<(i:Int)/\lf (ZJ left row) z=0
 dl:done.length<=i
def Zr5 (left:List Int) (i:Nat) (j:Nat) (s:List Int×List Int×List Int) (n:Int):List Int×List Int×List Int:=
 if n=(i:Int) then (if lf left (i:Int)-1=0 then (s.1++[(i:Int)],s.2.1.set j (-1),s.2.2.set i (lf left (i:Int)-1)) else (s.1,s.2.1,s.2.2.set i (lf left (i:Int)-1))) else s
theorem ZCJ (c:ZaB g left row) {i:Nat} (hi:i<left.length) (hl:left.length<=64) {done on' left':List Int} (T:Zva left row i done on' left') :
  ∃done2 on2 left2,lp (ZcS ⟨row,left⟩ ((i:Int),done,on',left')) (0,done,on',left')=some (done2,on2,left2)/\Zva left row (i+1) done2 on2 left2:=by
 have o8:=c.o8
 have hli:left[i]? = some (lf left (i:Int)):=by rw[gE hi];exact congrArg some (Zmd (gE hi)).symm
 have hlr:=(c.ok.rng _ (mG hli))
 have hw:w64 (lf left (i:Int)-1)=lf left (i:Int)-1:=Zcm (by omega)
 have hfold:=(ZlF row (ZcS ⟨row,left⟩ ((i:Int),done,on',left')) (fun j s=>((j:Int),s.1,s.2.1,s.2.2)) (Zr5 left i) id (fun j s=>s.1.length<=i+j/\s.2.1.length=row.length/\s.2.2.length=left.length) (fun j n s hj hn hI=>by
   obtain⟨i1,i2,i3⟩:=hI
   have hx3:=gE (show i<s.2.2.length by omega)
   have hx6:=gE (show j<s.2.1.length by omega)
   have hx5:(s.2.2.set i (lf left (i:Int)-1))[i]? = some (lf left (i:Int)-1):=by rw[List.getElem?_set,if_pos rfl,if_pos (by omega)]
   simp only[ZcS,ZaU hj,cT,Zn hn,bS,Zn hli,Zn hx3,hw,toNat_natCast,Zn hx5,Zn hx6,Zar (show s.1.length+1<=1073741824 by omega),ZA hj (by omega)]
   unfold Zr5
   by_cases q:n=(i:Int)
   ·rw[if_pos q,show(n != (i:Int))=false by rw[q];exact bne_self_eq_false _]
    by_cases q2:lf left (i:Int)-1=0
    ·rw[if_pos q2,show(lf left (i:Int)-1==0)=true from beq_iff_eq.2 q2]
     exact⟨rfl,by show(s.1++[(i:Int)]).length<=i+(j+1);rw[lA,length_singleton];omega,by show(s.2.1.set j (-1)).length=row.length;rw[length_set];exact i2,by show(s.2.2.set i _).length=left.length;rw[length_set];exact i3⟩
    ·rw[if_neg q2,show(lf left (i:Int)-1==0)=false from beq_eq_false_iff_ne.2 q2]
     exact⟨rfl,by show s.1.length<=i+(j+1);omega,i2,by show(s.2.2.set i _).length=left.length;rw[length_set];exact i3⟩
   ·rw[if_neg q,show(n != (i:Int))=true from bne_iff_ne.2 q]
    exact⟨rfl,by omega,i2,i3⟩) (fun s _=>by simp only[ZcS,ZaY,cF];rfl) (done,on',left') ⟨by have:=T.dl;dsimp only;omega,T.ol,T.ll⟩).1
 have hrun:∀n∈row,n = -1∨isN left n:=fun n hn=>(c.ok.run n hn).imp id fun h=>h.1
 have hlt:=Zl3 row left c.ok.one hrun
 have hne:∀(j:Nat) n,row[j]? = some n->n≠(i:Int)->((0<=n/\n<((i+1:Nat):Int))↔(0<=n/\n<(i:Int))):=fun j n _ h=>by omega
 refine⟨_,_,_,hfold,?_⟩
 by_cases hin:(i:Int)∈row
 ·obtain⟨j0,hj0⟩:=List.getElem?_of_mem hin
  have hk:=hlt (i:Int) (by omega)
  rw[if_pos hin] at hk
  have hj0l:=(gQ hj0).1
  rw[Zr6 (f:=Zr5 left i) hj0 fun j y s hy hj=>by
   unfold Zr5
   rw[if_neg fun e=>hj (c.ok.one j j0 (i:Int) (by rw[hy,e]) hj0 (by omega))]]
  unfold Zr5
  rw[if_pos rfl,zero_add]
  have lvn:∀k:Nat,k<left.length->(left'.set i (lf left (i:Int)-1))[k]? = some (if k<i+1 then lf (ZJ left row) (k:Int) else lf left (k:Int)):=fun k hkl=>by
   rw[List.getElem?_set]
   by_cases e:i=k
   ·rw[if_pos e,if_pos (by rw[T.ll];omega),if_pos (by omega),<- e,hk]
   ·rw[if_neg e,T.lv k hkl]
    by_cases q:k<i
    ·rw[if_pos q,if_pos (by omega)]
    ·rw[if_neg q,if_neg (by omega)]
  by_cases q2:lf left (i:Int)-1=0
  ·rw[if_pos q2]
   refine⟨by rw[length_set];exact T.ll,lvn,by rw[length_set];exact T.ol,fun j n hn=>?_,fun z=>?_,by show(done++[(i:Int)]).length<=i+1;rw[lA,length_singleton];have:=T.dl;omega⟩
   ·rw[List.getElem?_set]
    by_cases e:j0=j
    ·subst e
     rw[hj0] at hn
     cases Option.some.inj hn
     rw[if_pos rfl,if_pos (by rw[T.ol];exact hj0l),if_pos (by omega)]
     unfold Zeu
     rw[if_neg (by omega),hk,if_pos q2]
    ·have hni:n≠(i:Int):=fun e2=>e (c.ok.one j0 j (i:Int) hj0 (by rw[hn,e2]) (by omega))
     rw[if_neg e,T.ov j n hn]
     simp only[hne j n hn hni]
   ·rw[List.mem_append,mem_singleton,T.dn]
    constructor
    ·rintro (⟨z1,z2,z3,z4⟩ | rfl)
     ·exact⟨z1,z2,by omega,z4⟩
     ·exact⟨hin,by omega,by omega,by rw[hk];exact q2⟩
    ·rintro ⟨z1,z2,z3,z4⟩
     by_cases e:z=(i:Int)
     ·exact .inr e
     ·exact .inl ⟨z1,z2,by omega,z4⟩
  ·rw[if_neg q2]
   refine⟨by rw[length_set];exact T.ll,lvn,T.ol,fun j n hn=>?_,fun z=>?_,by have:=T.dl;dsimp only;omega⟩
   ·dsimp only
    rw[T.ov j n hn]
    by_cases e:n=(i:Int)
    ·rw[if_neg (by omega),if_pos (by omega)]
     unfold Zeu
     rw[if_neg (by omega),e,hk,if_neg q2]
    ·simp only[hne j n hn e]
   ·dsimp only
    rw[T.dn]
    constructor
    ·rintro ⟨z1,z2,z3,z4⟩
     exact⟨z1,z2,by omega,z4⟩
    ·rintro ⟨z1,z2,z3,z4⟩
     refine⟨z1,z2,?_,z4⟩
     have:z≠(i:Int):=fun e=>by rw[e,hk] at z4;exact q2 z4
     omega
 ·have hk:=hlt (i:Int) (by omega)
  rw[if_neg hin] at hk
  rw[Znz (f:=Zr5 left i) fun j y s hy=>by
   unfold Zr5
   rw[if_neg fun e=>hin (by rw[<- e];exact mG hy)]]
  refine⟨T.ll,fun k hkl=>?_,T.ol,fun j n hn=>?_,fun z=>?_,by have:=T.dl;dsimp only;omega⟩
  ·dsimp only
   rw[T.lv k hkl]
   by_cases e:k=i
   ·rw[if_neg (by omega),if_pos (by omega),e,hk]
   ·by_cases q:k<i
    ·rw[if_pos q,if_pos (by omega)]
    ·rw[if_neg q,if_neg (by omega)]
  ·dsimp only
   rw[T.ov j n hn]
   simp only[hne j n hn fun e=>hin (by rw[<- e];exact mG hn)]
  ·dsimp only
   rw[T.dn]
   constructor
   ·rintro ⟨z1,z2,z3,z4⟩
    exact⟨z1,z2,by omega,z4⟩
   ·rintro ⟨z1,z2,z3,z4⟩
    have:z≠(i:Int):=fun e=>hin (by rw[<- e];exact z1)
    exact⟨z1,z2,by omega,z4⟩
theorem ZtE (c:ZaB g left row) (hl:left.length<=64):∃done,Zf5 ⟨row,left⟩=some (⟨ZH left row,ZJ left row⟩,done)/\(∀z,z∈done↔z∈row/\z ≠ -1/\lf (ZJ left row) z=0)/\done.length<=64:=by
 have o8:=c.o8
 have key:∀(k i:Nat) (done on' left':List Int),i+k=left.length->Zva left row i done on' left'->∃done2 on2 left2,lp (ZcU ⟨row,left⟩) ((i:Int),done,on',left')=some (done2,on2,left2)/\Zva left row left.length done2 on2 left2:=by
  intro k
  induction k with
  | zero=>
   intro i done on' left' hi T
   have hi:i=left.length:=by omega
   subst hi
   refine⟨done,on',left',?_,T⟩
   rw[Zaj]
   simp only[ZcU,ZaY,cF]
  | succ k ih=>
   intro i done on' left' hi T
   have hil:i<left.length:=by omega
   obtain⟨d2,o2,l2,q1,q2⟩:=ZCJ c hil hl T
   obtain⟨d3,o3,l3,q3,q4⟩:=ih (i+1) d2 o2 l2 (by omega) q2
   refine⟨d3,o3,l3,?_,q4⟩
   rw[Zaj]
   simp only[ZcU,ZaU hil,cT,q1,bS,ZA hil (by omega)]
   exact q3
 have T0:Zva left row 0 [] row left:=⟨rfl,fun k hk=>by rw[if_neg (by omega)];exact ZjB (n:=(k:Int)) (by omega) (by simpa using hk),rfl,fun j n hn=>by rw[if_neg (by omega)];exact hn,fun z=>by
  constructor
  ·intro h;cases h
  ·rintro ⟨_,z1,z2,_⟩;omega,Nat.le_refl _⟩
 obtain⟨d2,o2,l2,q1,T⟩:=key left.length 0 [] row left (by omega) T0
 have el:l2=ZJ left row:=by
  apply List.ext_getElem?
  intro k
  by_cases hk:k<left.length
  ·rw[T.lv k hk,if_pos hk]
   exact(ZjB (n:=(k:Int)) (by omega) (by rw[ZbV];simpa using hk)).symm
  ·rw[List.getElem?_eq_none (by rw[T.ll];omega),List.getElem?_eq_none (by rw[ZbV];omega)]
 have eo:o2=ZH left row:=by
  apply List.ext_getElem?
  intro j
  rw[Zcr,List.getElem?_map]
  by_cases hj:j<row.length
  ·have hx:=gE hj
   rw[T.ov j _ hx,hx]
   rcases(c.ok.run _ (getElem_mem hj)) with h | h
   ·rw[if_neg (by omega),h];rfl
   ·have:=h.1.1;have:=h.1.2
    rw[if_pos (by omega)];rfl
  ·rw[List.getElem?_eq_none (by rw[T.ol];omega),List.getElem?_eq_none (by omega)];rfl
 subst el;subst eo
 refine⟨d2,?_,fun z=>?_,by have:=T.dl;omega⟩
 ·unfold Zf5
  dsimp only
  rw[Zar (show row.length<=1073741824 by omega),Zar (show left.length<=1073741824 by omega),cT,cT,show lp (ZcU ⟨row,left⟩) (0,([]:List Int),row,left)=_ from q1]
  rfl
 ·rw[T.dn]
  constructor
  ·rintro ⟨z1,z2,_,z4⟩
   exact⟨z1,by omega,z4⟩
  ·rintro ⟨z1,z2,z4⟩
   rcases(c.ok.run z z1) with h | h
   ·exact absurd h z2
   ·have:=h.1.1;have:=h.1.2
    exact⟨z1,by omega,by omega,z4⟩
end
end
theorem ZxQ {γ:Type}{p:Nat->γ->Bool}:∀{l:List γ}{i:Nat},ZhU p i l=false->∀(j:Nat) x,l[j]? = some x->p (i+j) x=false
 | [],_,_,j,x,h=>by simp at h
 | y :: l,i,h,j,x,hx=>by
  unfold ZhU at h
  rw[Bool.or_eq_false_iff] at h
  cases j with
  | zero=>cases Option.some.inj (show some y=some x from hx);exact h.1
  | succ j=>have:=ZxQ h.2 j x hx;rw[show i+1+j=i+(j+1) by omega] at this;exact this
theorem ZvM {g:Zj} (h:ZM g=0):g.edges.Pairwise fun e e'=>¬(e.src=e'.src/\e.dst=e'.dst):=by
 have hp:Zfy g=0:=by
  unfold ZM at h
  by_cases h0:Zfy g=0
  ·exact h0
  ·rw[beq_eq_false_iff_ne.2 h0] at h;exact h
 have hb:ZhU (Zln g) 0 g.edges=false:=by
  unfold Zfy at hp
  cases h1:(decide (64<(g.work.length:Int)) || decide (256<(g.edges.length:Int))) with
  | true=>rw[h1] at hp;exact absurd (show(40:Int)=0 from hp) (by decide)
  | false=>
   cases h2:g.work.any ZeT with
   | true=>rw[h1,h2] at hp;exact absurd (show(41:Int)=0 from hp) (by decide)
   | false=>
    cases h3:ZhU (Zln g) 0 g.edges with
    | true=>rw[h1,h2,h3] at hp;exact absurd (show(42:Int)=0 from hp) (by decide)
    | false=>rfl
 rw[List.pairwise_iff_getElem]
 intro i j hi hj hij ⟨e1,e2⟩
 have:=ZxQ hb j g.edges[j] (gE hj)
 unfold Zln at this
 simp only[Bool.or_eq_false_iff] at this
 have h3:=List.any_eq_false.1 this.2.2.2 g.edges[i] (mG (i:=i) (by rw[zero_add,List.getElem?_take,if_pos hij];exact gE hi))
 refine h3 ?_
 unfold Zoe
 rw[e1,e2]
 simp
theorem Zyj:∀{l m:List Int},l.Pairwise (fun x y=>x<y)->m.Pairwise (fun x y=>x<y)->(∀x,x∈l↔x∈m)->l=m
 | [],[],_,_,_=>rfl
 | [],y :: m,_,_,h=>absurd ((h y).2 (by simp)) (by simp)
 | x :: l,[],_,_,h=>absurd ((h x).1 (by simp)) (by simp)
 | x :: l,y :: m,h1,h2,h=>by
  have a1:=List.pairwise_cons.1 h1
  have a2:=List.pairwise_cons.1 h2
  have hxy:x=y:=by
   rcases List.mem_cons.1 ((h x).1 (by simp)) with e | e
   ·exact e
   ·rcases List.mem_cons.1 ((h y).2 (by simp)) with e2 | e2
    ·exact e2.symm
    ·have:=a2.1 x e;have:=a1.1 y e2;omega
  subst hxy
  congr 1
  refine Zyj a1.2 a2.2 fun z=>⟨fun hz=>?_,fun hz=>?_⟩
  ·rcases List.mem_cons.1 ((h z).1 (by simp[hz])) with e | e
   ·have:=a1.1 z hz;omega
   ·exact e
  ·rcases List.mem_cons.1 ((h z).2 (by simp[hz])) with e | e
   ·have:=a2.1 z hz;omega
   ·exact e
theorem Zsr {γ:Type} (p:γ->Bool) (f:γ->Int):∀(l:List γ) (i:Nat),sel p (fun _ x=>f x) i l=(l.filter p).map f
 | [],_=>rfl
 | x :: l,i=>by
  unfold sel
  rw[Zsr p f l,List.filter_cons]
  cases p x<;>rfl
def Zpv (g:Zj) (n:Int):List Int:=((List.range g.work.length).filter fun i:Nat=>g.edges.any fun e=>e.src==n&&e.dst==(i:Int)).map fun i:Nat=>(i:Int)
theorem ZwW {g:Zj} (hG:Zbe g) (n:Int):ZgT g n=some (Zpv g n):=by
 have hw:=hG.wl
 unfold ZgT
 rw[ZkO (n:=g.work.length) (ZdK g n) (fun i=>g.edges.any fun e=>e.src==n&&e.dst==(i:Int)) (fun i out hi ho=>by
   simp only[ZdK,ZaU hi,cT,ZzQ hG,bS,Zar (show out.length+1<=1073741824 by omega),ZA hi (by omega)]
   cases (g.edges.any fun e=>e.src==n&&e.dst==(i:Int))<;>rfl) (fun out=>by simp only[ZdK,ZaY,cF])]
 rfl
theorem ZBK {g:Zj} (hc:ZM g=0) (n:Int):ZfH g n=some (Zpv g n):=by
 obtain⟨h,_⟩:=ZT hc
 have hel:=h.el
 have key:=ZBS g.edges (by omega) (fun e:Zv=>e.src==n) (fun _ e=>e.dst) (Zc0 g fun z0=>Zcg z0 n) (fun i x s hi hx=>by
  simp only[Zc0,ZaU hi,cT,Zn hx,bS,Zcg,ZA hi h.short.e]
  cases x.src==n<;>rfl) (fun s=>by simp only[Zc0,ZaY,cF]) [] (by simp)
 rw[List.nil_append] at key
 have hlen:(sel (fun e:Zv=>e.src==n) (fun _ e=>e.dst) 0 g.edges).length<=256:=le_trans (Ztj _ _ _ _) hel
 obtain⟨r,h1,h2,h3⟩:=Zph _ (le_trans hlen (by omega))
 have hnd:(sel (fun e:Zv=>e.src==n) (fun _ e=>e.dst) 0 g.edges).Nodup:=by
  rw[Zsr (fun e:Zv=>e.src==n) (fun e=>e.dst)]
  unfold List.Nodup
  rw[List.pairwise_map]
  refine((ZvM hc).sublist List.filter_sublist).imp_of_mem fun {a b} ha hb hab e=>hab ⟨?_,e⟩
  have q1:=(List.mem_filter.1 ha).2
  have q2:=(List.mem_filter.1 hb).2
  rw[beq_iff_eq.1 q1,beq_iff_eq.1 q2]
 have hrn:r.Nodup:=h2.nodup_iff.2 hnd
 have hr:r=Zpv g n:=by
  refine Zyj ((h3.and hrn).imp fun {x y} h=>by omega) ?_ fun z=>?_
  ·unfold Zpv
   rw[List.pairwise_map]
   exact(List.pairwise_lt_range.sublist List.filter_sublist).imp fun h=>by omega
  ·rw[h2.mem_iff,Zt7]
   unfold Zpv
   rw[Zf3,any_eq_true]
   constructor
   ·rintro ⟨j,x,hx,h3,h4⟩
    have hm:=mG hx
    have:=h.dst x hm
    subst h4
    exact⟨this.1,this.2,x,hm,by rw[toNat_of_nonneg this.1,h3,beq_self_eq_true];rfl⟩
   ·rintro ⟨z0,_,e,he,h5⟩
    rw[toNat_of_nonneg z0,aT] at h5
    obtain⟨j,hj⟩:=List.getElem?_of_mem he
    exact⟨j,e,hj,h5.1,(beq_iff_eq.1 h5.2).symm⟩
 unfold ZfH
 rw[ZeC g h.short,hc,bS,show((0:Int) != 0)=false from rfl,cF]
 unfold Zmh
 simp only[key,bS,h1,hr]
structure DqW (d:Za):Prop where
 len:d.ring.length=64
 t0:0<=d.top
 t1:d.top<=1000
 b0:d.top-1<=d.bottom
 b1:d.bottom<=d.top+64
theorem ZkX.w {d:Za} (h:ZkX d):DqW d:=⟨h.len,h.t0,by have:=h.t1;omega,h.b0,by have:=h.b1;have:=h.t0;omega⟩
theorem ZrE {d:Za} (h:DqW d):ZaG d=some 0:=by
 obtain⟨k,hk⟩:=ZBq
 have:=h.t0;have:=h.t1;have:=h.b0;have:=h.b1
 unfold ZaG
 rw[h.len,show((64:Nat):Int)=64 from rfl,hk,bS]
 have e:Zjv d.top=0:=by
  unfold Zjv
  rw[dF (by omega),dF (by omega)];rfl
 simp only[cT,Zni,bS,e,ZkD (show -9223372036854775808<=d.top-1 by omega) (by omega),ZkD (show -9223372036854775808<=d.top+64 by omega) (by omega)]
 rw[dF (show ¬(64:Int)<64 by omega),dF (show ¬d.bottom<d.top-1 by omega),dF (show ¬d.top+64<d.bottom by omega)]
 rfl
theorem ZsW {d:Za} (h:DqW d):ZC d=some true:=by
 obtain⟨k,hk⟩:=ZAi
 have:=h.t0;have:=h.t1;have:=h.b0;have:=h.b1
 unfold ZC ZhO
 rw[h.len,show((64:Nat):Int)=64 from rfl,hk,bS,Zcm (by omega),Zcm (by omega)]
 rw[dT (show(64:Int)<=64 by omega),dT (show 0<=d.top by omega),dT (show d.top<=1099511627775 by omega),dT (show d.top-1<=d.bottom by omega),dT (show d.bottom<=d.top+64 by omega)]
 rfl
theorem ZyB {d:Za} (h:d.ring.length=64) (h0:0<=d.bottom) (x:Int):lp (Zb1 d x) (0,([]:List Int))=some (d.ring.set (plc d.bottom) x):=by
 have hp:Int.tmod d.bottom 64=(plc d.bottom:Int):=by
  have:=(ZrF d.bottom).1
  rwa [dF (by omega),cF] at this
 have hpl:=(ZrF d.bottom).2
 have hl:(d.ring.set (plc d.bottom) x).length=d.ring.length:=length_set
 have:=ZlF d.ring (Zb1 d x) (fun i out=>((i:Int),out)) (fun i _ _=>(d.ring.set (plc d.bottom) x).take (i+1)) id (fun i out=>out=(d.ring.set (plc d.bottom) x).take i) (fun i y out hi hy hI=>by
   have hol:out.length<=64:=by rw[hI,length_take];omega
   have hg:=gE (show i<(d.ring.set (plc d.bottom) x).length by omega)
   have ht:(d.ring.set (plc d.bottom) x).take (i+1)=out++[if plc d.bottom=i then x else y]:=by
    rw[List.take_add_one,hI]
    congr 1
    rw[List.getElem?_set]
    by_cases e:plc d.bottom=i
    ·rw[if_pos e,if_pos e,if_pos (by omega)];rfl
    ·rw[if_neg e,if_neg e,hy];rfl
   refine⟨?_,rfl⟩
   rw[ht]
   have hii:=ZA hi (by omega)
   simp only[Zb1,ZaU hi,cT,hii,Zar (show out.length+1<=1073741824 by omega),Zn hy,bS]
   rw[h,show((64:Nat):Int)=64 from rfl,show((64:Int)==0)=false from rfl,cF,hp]
   by_cases e:plc d.bottom=i
   ·rw[if_pos e,show(((i:Nat):Int)==((plc d.bottom:Nat):Int))=true from beq_iff_eq.2 (by omega)];rfl
   ·rw[if_neg e,show(((i:Nat):Int)==((plc d.bottom:Nat):Int))=false from beq_eq_false_iff_ne.2 (by omega)];rfl) (fun out _=>by simp only[Zb1,ZaY,cF];rfl) [] (by simp)
 rw[show lp (Zb1 d x) (0,([]:List Int))=_ from this.1,this.2,<- hl,List.take_length]
 rfl
theorem ZkP {d:Za} (h:DqW d) (x:Int):Ze2 d x=ZbD d x/\∀d',ZbD d x=some (d',0)->DqW d':=by
 have:=h.t0;have:=h.t1;have:=h.b0;have:=h.b1
 have hw:w64 (d.bottom-d.top)=d.bottom-d.top:=Zcm (by omega)
 have hw2:w64 (d.bottom+1)=d.bottom+1:=Zcm (by omega)
 unfold Ze2 ZbD
 rw[ZsW h,ZrE h]
 simp only[bS,cT,show((0:Int) != 0)=false from rfl,cF,hw,hw2,h.len]
 by_cases q:d.bottom<d.top
 ·rw[dT q,dT (show d.bottom-d.top<0 by omega)]
  refine⟨rfl,fun d' e=>?_⟩
  have:=Option.some.inj e
  exact absurd (show(121:Int)=0 from congrArg (·.2) this) (by decide)
 ·rw[dF q,dF (show ¬d.bottom-d.top<0 by omega),cF,cF]
  by_cases q2:d.bottom-d.top=64
  ·rw[show(d.bottom-d.top==((64:Nat):Int))=true from beq_iff_eq.2 (by omega),dT (show((64:Nat):Int)<=d.bottom-d.top by omega)]
   refine⟨rfl,fun d' e=>?_⟩
   have:=Option.some.inj e
   exact absurd (show(121:Int)=0 from congrArg (·.2) this) (by decide)
  ·rw[show(d.bottom-d.top==((64:Nat):Int))=false from beq_eq_false_iff_ne.2 (by omega),dF (show ¬((64:Nat):Int)<=d.bottom-d.top by omega)]
   simp only[cF,ZyB h.len (show 0<=d.bottom by omega) x,bS,Zmm h.len,Zh0 h.len,ZiD h.len,toNat_natCast]
   refine⟨trivial,fun d' e=>?_⟩
   have e2:=congrArg (·.1) (Option.some.inj e)
   dsimp only at e2
   rw[<- e2]
   exact⟨by rw[length_set];exact h.len,h.t0,h.t1,by show d.top-1<=d.bottom+1;omega,by show d.bottom+1<=d.top+64;omega⟩
def Zdo (a:Int) (T:List Bool) (e:Zv):List Bool:=bif (e.src==a) || bAt T e.src then T.set e.dst.toNat true else T
def Zt2 (g:Zj) (a:Int) (T:List Bool):List Bool:=Zex (fun _ T e=>Zdo a T e) 0 T g.edges
def ZlV (g:Zj) (a:Int):Nat->List Bool->List Bool
 | 0,T=>T
 | k+1,T=>ZlV g a k (Zt2 g a T)
theorem ZkA (a:Int) (T:List Bool) (e:Zv):(Zdo a T e).length=T.length:=by
 unfold Zdo
 cases (e.src==a) || bAt T e.src<;>simp
theorem ZFz {g:Zj} (h:Zbe g) (a:Int) (j:Int) (T:List Bool) (hT:T.length=g.work.length):lp (Zcu g a) (0,T)=some (Zt2 g a T)/\(Zt2 g a T).length=g.work.length:=by
 have:=ZlF g.edges (Zcu g a) (fun i T=>((i:Int),T)) (fun _ T e=>Zdo a T e) id (fun _ T=>T.length=g.work.length) (fun i e T hi he hT=>by
   have hm:=mG he
   refine⟨?_,by rw[ZkA];exact hT⟩
   have e1:=ZoI (g:=g) hT (h.src e hm)
   have e2:=ZoI (g:=g) hT (h.dst e hm)
   simp only[Zcu,ZaU hi,Zn he,bS,ZA hi h.short.e,cT,e1,e2,Zdo]
   cases (e.src==a)<;>cases bAt T e.src<;>rfl) (fun T hT=>by simp only[Zcu,ZaY];rfl) T hT
 exact this
theorem ZuJ {g:Zj} (h:Zbe g) (a:Int):∀(k i:Nat) (T:List Bool),i+k=g.work.length->T.length=g.work.length->lp (Zcq g a) ((i:Int),T)=some (ZlV g a k T)
 | 0,i,T,hi,hT=>by
  have:i=g.work.length:=by omega
  subst this
  rw[Zaj]
  simp only[Zcq,ZaY,cF]
  rfl
 | k+1,i,T,hi,hT=>by
  obtain⟨e,hl⟩:=ZFz h a 0 T hT
  rw[Zaj]
  simp only[Zcq,ZaU (show i<g.work.length by omega),cT,e,bS,ZA (show i<g.work.length by omega) h.short.w]
  exact ZuJ h a k (i+1) _ (by omega) hl
def ZkI (g:Zj) (a:Int):List Bool:=ZlV g a g.work.length (List.replicate g.work.length false)
theorem ZDK {g:Zj} (h:Zbe g) (a:Int):ZgW g a=some (ZkI g a):=by
 have hl:=h.wl
 have:=ZuJ h a g.work.length 0 (List.replicate g.work.length false) (by simp) (by simp)
 have e0:lp (Zcq g a) (0,List.replicate g.work.length false)=some (ZkI g a):=this
 unfold ZgW
 rw[dT (show(0:Int)<=(g.work.length:Int) by omega),dT (show(g.work.length:Int)<=lim by show(g.work.length:Int)<=1073741824;omega),beq_self_eq_true]
 simp only[decide_true,Bool.and_true,cT,toNat_natCast,e0,bS]
theorem ZuW {g:Zj} (h:Zbe g) (a:Int):∀(l:List Zv) (i:Nat) (T:List Bool),(∀e∈l,e∈g.edges)->T.length=g.work.length->(∀z,0<=z->bAt T z=true->Way g a z)->(∀z,0<=z->bAt (Zex (fun _ T e=>Zdo a T e) i T l) z=true->Way g a z)
 | [],_,_,_,_,hT=>hT
 | e :: l,i,T,hl,hn,hT=>by
  refine ZuW h a l (i+1) _ (fun x hx=>hl x (by simp[hx])) (by rw[ZkA];exact hn) fun z hz hb=>?_
  have he:=hl e (by simp)
  have hd:=h.dst e he
  have hb:bAt (Zdo a T e) z=true:=hb
  unfold Zdo at hb
  cases hc:(e.src==a) || bAt T e.src with
  | false=>rw[hc] at hb;exact hT z hz hb
  | true=>
   rw[hc] at hb
   simp only[cT] at hb
   rw[Zyf (by rw[hn];exact hd.2) z hz,Bool.or_eq_true,decide_eq_true_eq] at hb
   rcases hb with hb | hb
   ·have:z=e.dst:=by omega
    subst this
    rw[Bool.or_eq_true,beq_iff_eq] at hc
    rcases hc with hc | hc
    ·exact hc ▸ Way.one he
    ·exact Way.more (hT _ (h.src e he).1 hc) he
   ·exact hT z hz hb
theorem ZrH (g:Zj) (a:Int) (T:List Bool):(Zt2 g a T).length=T.length:=by
 have:∀(l:List Zv) (i:Nat) (T:List Bool),(Zex (fun _ T e=>Zdo a T e) i T l).length=T.length:=by
  intro l
  induction l with
  | nil=>intro i T;rfl
  | cons e l ih=>intro i T;exact(ih (i+1) _).trans (ZkA a T e)
 exact this g.edges 0 T
theorem Zr7 {g:Zj} (h:Zbe g) (a:Int):∀(k:Nat) (T:List Bool),T.length=g.work.length->(∀z,0<=z->bAt T z=true->Way g a z)->(∀z,0<=z->bAt (ZlV g a k T) z=true->Way g a z)
 | 0,_,_,hT=>hT
 | k+1,T,hn,hT=>Zr7 h a k _ (by rw[ZrH];exact hn) (ZuW h a g.edges 0 T (fun _ hx=>hx) hn hT)
def Zk4 (g:Zj) (a:Int) (T:List Bool):Prop:=∀e∈g.edges,(e.src=a∨bAt T e.src=true)->bAt T e.dst=true
theorem Zw7 {g:Zj}{a:Int}{T:List Bool} (hc:Zk4 g a T) {b:Int} (w:Way g a b):bAt T b=true:=by
 generalize ha:a=a' at w
 induction w with
 | one he=>exact hc _ he (.inl ha.symm)
 | more w he ih=>exact hc _ he (.inr (ih ha))
def cnt (T:List Bool):Nat:=T.countP id
theorem ZDL {T:List Bool}{i:Nat} (hi:i<T.length):cnt T<=cnt (T.set i true)/\(bAt T (i:Int)=false->cnt (T.set i true)=cnt T+1):=by
 have e:=List.countP_set (p:=id) (a:=true) hi
 have hb:bAt T (i:Int)=T[i]:=by unfold bAt;rw[toNat_natCast,gE hi]
 unfold cnt
 rw[e,hb]
 have pos:T[i]=true->0<T.countP id:=fun ht=>List.countP_pos_iff.2 ⟨T[i],getElem_mem hi,ht⟩
 cases ht:T[i] with
 | true=>have:=pos ht;simp;omega
 | false=>simp
theorem ZuL {g:Zj} (h:Zbe g) (a:Int):∀(l:List Zv) (i:Nat) (T:List Bool),(∀e∈l,e∈g.edges)->T.length=g.work.length ->
  cnt T<=cnt (Zex (fun _ T e=>Zdo a T e) i T l)/\(cnt (Zex (fun _ T e=>Zdo a T e) i T l)=cnt T->Zex (fun _ T e=>Zdo a T e) i T l=T/\∀e∈l,(e.src=a∨bAt T e.src=true)->bAt T e.dst=true)
 | [],_,T,_,_=>⟨Nat.le_refl _,fun _=>⟨rfl,fun e he=>by cases he⟩⟩
 | e :: l,i,T,hl,hn=>by
  have he:=hl e (by simp)
  have hd:=h.dst e he
  have hi:e.dst.toNat<T.length:=by rw[hn];exact hd.2
  have hd2:((e.dst.toNat:Nat):Int)=e.dst:=by omega
  obtain⟨k1,k2⟩:=ZuL h a l (i+1) (Zdo a T e) (fun x hx=>hl x (by simp[hx])) (by rw[ZkA];exact hn)
  show cnt T<=cnt (Zex _ (i+1) (Zdo a T e) l)/\(cnt (Zex _ (i+1) (Zdo a T e) l)=cnt T->Zex _ (i+1) (Zdo a T e) l=T/\_)
  obtain⟨c1,c2⟩:=ZDL hi
  have hstep:cnt T<=cnt (Zdo a T e)/\(cnt (Zdo a T e)=cnt T->Zdo a T e=T/\((e.src=a∨bAt T e.src=true)->bAt T e.dst=true)):=by
   unfold Zdo
   cases hc:(e.src==a) || bAt T e.src with
   | false=>
    simp only[cF]
    refine⟨Nat.le_refl _,fun _=>⟨trivial,fun hx=>?_⟩⟩
    exfalso
    rw[Bool.or_eq_false_iff,beq_eq_false_iff_ne] at hc
    rcases hx with hx | hx
    ·exact hc.1 hx
    ·rw[hc.2] at hx;cases hx
   | true=>
    simp only[cT]
    refine⟨c1,fun hx=>?_⟩
    cases hb:bAt T e.dst with
    | false=>
     rw[hd2] at c2
     have:=c2 hb
     omega
    | true=>
     refine⟨?_,fun _=>rfl⟩
     have hg:T[e.dst.toNat]=true:=by
      unfold bAt at hb
      rw[gE hi] at hb
      exact hb
     rw[<- hg,List.set_getElem_self]
  refine⟨by omega,fun hx=>?_⟩
  obtain⟨s1,s2⟩:=hstep.2 (by omega)
  obtain⟨t1,t2⟩:=k2 (by omega)
  rw[s1] at t1 t2 ⊢
  refine⟨t1,fun x hx=>?_⟩
  rcases List.mem_cons.1 hx with rfl | hx
  ·exact s2
  ·exact t2 x hx
theorem Znf {g:Zj} (h:Zbe g) (a:Int):∀(k:Nat) (T:List Bool),T.length=g.work.length->g.work.length<=cnt T+k->Zk4 g a (ZlV g a k T)
 | 0,T,hn,hk=>by
  have hall:cnt T=T.length:=Nat.le_antisymm (List.countP_le_length) (by omega)
  have:=List.countP_eq_length.1 hall
  intro e he _
  have hd:=h.dst e he
  show bAt T e.dst=true
  unfold bAt
  rw[gE (show e.dst.toNat<T.length by rw[hn];exact hd.2)]
  exact this _ (getElem_mem _)
 | k+1,T,hn,hk=>by
  obtain⟨c1,c2⟩:=ZuL h a g.edges 0 T (fun _ hx=>hx) hn
  by_cases hc:cnt (Zt2 g a T)=cnt T
  ·obtain⟨t1,t2⟩:=c2 hc
   have t1':Zt2 g a T=T:=t1
   have stay:∀k,ZlV g a k T=T:=by
    intro k
    induction k with
    | zero=>rfl
    | succ k ih=>show ZlV g a k (Zt2 g a T)=T;rw[t1'];exact ih
   rw[stay]
   exact t2
  ·have c1':cnt T<=cnt (Zt2 g a T):=c1
   exact Znf h a k (Zt2 g a T) (by rw[ZrH];exact hn) (by omega)
theorem Zs8 {g:Zj} (h:Zbe g) {a b:Int} (hb:0<=b):bAt (ZkI g a) b=true↔Way g a b:=by
 constructor
 ·exact Zr7 h a _ _ (by simp) (fun z hz hx=>by
   exfalso
   unfold bAt at hx
   rw[List.getElem?_replicate] at hx
   split at hx
   ·rename_i heq
    split at heq
    ·cases heq;cases hx
    ·cases heq
   ·cases hx) b hb
 ·exact Zw7 (Znf h a g.work.length (List.replicate g.work.length false) (by simp) (by omega))
theorem ZwX (g:Zj) (a:Int):(ZkI g a).length=g.work.length:=by
 have:∀(k:Nat) (T:List Bool),(ZlV g a k T).length=T.length:=by
  intro k
  induction k with
  | zero=>intro T;rfl
  | succ k ih=>intro T;exact(ih _).trans (ZrH g a T)
 exact(this _ _).trans (by simp)
theorem Zif (g:Zj) (h:Zfc g):Zbf g=some (ZM g):=by
 unfold Zbf
 rw[Zw4 g h,bS]
 by_cases h0:Zfy g=0
 ·have hG:=Zrn h0
  have key:=Zdd g.work (Zdx g) (fun i _=>bAt (ZkI g (i:Int)) (i:Int)) (fun _ _=>.inl ()) (.inr ()) (fun i x hi hx=>by
    simp only[Zdx,ZaU hi,ZDK hG,bS,ZA hi h.w,cT,ZoI (ZwX g (i:Int)) (z:=(i:Int)) ⟨by omega,by simpa using hi⟩]
    cases bAt (ZkI g (i:Int)) (i:Int)<;>rfl) (by simp only[Zdx,ZaY];rfl)
  rw[key,Zbi,h0]
  unfold ZM
  rw[h0]
  by_cases hg:Zmx g
  ·rw[Zx0 hg]
   cases hb:ZhU (fun i _=>bAt (ZkI g (i:Int)) (i:Int)) 0 g.work with
   | false=>rfl
   | true=>
    obtain⟨j,x,_,h2⟩:=(ZjX _ _ 0).1 hb
    exact absurd ((Zs8 hG (by omega)).1 h2) (hg _)
  ·rw[Zt5 hg]
   cases hb:ZhU (fun i _=>bAt (ZkI g (i:Int)) (i:Int)) 0 g.work with
   | true=>rfl
   | false=>
    exfalso
    refine hg fun a w=>?_
    have ha:=w.src_in hG
    have es:((a.toNat:Nat):Int)=a:=by omega
    have:=(ZjX (fun i (_:Int)=>bAt (ZkI g (i:Int)) (i:Int)) g.work 0).2 ⟨a.toNat,_,gE ha.2,by rw[zero_add,es];exact(Zs8 hG ha.1).2 w⟩
    rw[hb] at this
    cases this
 ·unfold ZM
  have hne:(Zfy g != 0)=true:=by rw[bne,beq_false_of_ne h0];rfl
  rw[beq_false_of_ne h0,hne]
  rfl
section
section
variable {g:Zj} {m:Nat} {left on row fs:List Int} {ds:List Za} {ts:List Zb}
theorem ZlL (h:ZM g=0) (c:ZaB g left on):Zep g ⟨on,left⟩=some 0:=by
 obtain⟨hG,_⟩:=ZT h
 have o1:=c.o1;have o8:=c.o8;have ll:=c.ll;have hw:=hG.wl
 unfold Zep
 rw[Zif g hG.short,h,bS,show((0:Int) != 0)=false from rfl,cF]
 dsimp only
 rw[dF (show ¬(on.length:Int)<1 by omega),cF,dF (show ¬8<(on.length:Int) by omega),cF,show((left.length:Int) != (g.work.length:Int))=false by rw[ll];simp,cF]
 rw[Zhm left (ZdB ⟨on,left⟩) (.inr ()) (fun i x hi hx=>by
   have:=c.ok.rng x (mG hx)
   simp only[ZdB,ZaU hi,cT,Zn hx,bS,dF (show ¬x<0 by omega),dF (show ¬1000<x by omega),cF,ZA hi (by omega)]) (by simp only[ZdB,ZaY];rfl),bS]
 dsimp only
 rw[Zhm left (Zdr g ⟨on,left⟩) (.inr ()) (fun i x hi hx=>by
   have hin:isN left (i:Int):=⟨by omega,by simpa using hi⟩
   have hlx:lf left (i:Int)=x:=Zmd hx
   simp only[Zdr,ZaU hi,cT,Zn hx,bS,Zpz hG c,ZA hi (by omega)]
   by_cases q:x=0
   ·rw[q,Zcs.2 (c.ok.over _ hin (by rw[hlx,q]))];rfl
   ·rw[beq_eq_false_iff_ne.2 q];rfl) (by simp only[Zdr,ZaY];rfl),bS]
 dsimp only
 rw[Zhm on (Zdk g ⟨on,left⟩) (.inr ()) (fun i n hi hn=>by
   simp only[Zdk,ZaU hi,cT,Zn hn,bS,ZA hi (by omega)]
   rcases c.ok.run n (mG hn) with e | ⟨h1,h2,h3⟩
   ·subst e
    rw[dF (show ¬(-1:Int) < -1 by omega),dF (show ¬(left.length:Int) <= -1 by omega),dF (show ¬(0:Int) <= -1 by omega)]
    rfl
   ·have a1:=h1.1
    have a2:=h1.2
    have hm:(List.take i on).any (fun x=>n==x)=false:=List.any_eq_false.2 fun x hx hq=>by
     have:n=x:=by simpa using hq
     subst this
     obtain⟨j,hj⟩:=List.getElem?_of_mem hx
     have hjl:=(gQ hj).1
     rw[length_take] at hjl
     rw[List.getElem?_take,if_pos (by omega)] at hj
     have:=c.ok.one j i n hj hn (by omega)
     omega
    simp only[dF (show ¬n < -1 by omega),dF (show ¬(left.length:Int)<=n by omega),dT (show(0:Int)<=n by omega),cF,cT,Zkf h1,bS,show(lf left n==0)=false from beq_eq_false_iff_ne.2 (by omega),Zpz hG c,Zcs.2 h3,dT (show(0:Int)<=(i:Int) by omega),toNat_natCast,Nat.ble_eq_true_of_le (show i<=on.length by omega),Zky (List.take i on) n (by rw[length_take];omega),hm]) (by simp only[Zdk,ZaY];rfl)]
 rfl
theorem ZiJ (h:ZM g=0) (G:GangIn g m left on ds ts fs):Zel g ⟨⟨on,left⟩,ds,ts,fs⟩=some 0:=by
 have hol:=G.ol;have htl:=G.tl;have hdl:=G.dl;have hfl:=G.fl
 have o8:=G.crew.o8
 unfold Zel
 dsimp only
 rw[ZlL h G.crew,bS,show((0:Int) != 0)=false from rfl,cF,hdl,htl,hfl,hol,bne_self_eq_false,cF,cF,cF]
 rw[Zhm on (Zds ⟨⟨on,left⟩,ds,ts,fs⟩) (.inr ()) (fun i n hi hn=>by
   have hts:=gE (show i<ts.length by omega)
   have hds:=gE (show i<ds.length by omega)
   have hfs:=gE (show i<fs.length by omega)
   generalize ts[i]=t at hts
   generalize ds[i]=d at hds
   generalize fs[i]=f at hfs
   have hd:=Zte G hds
   have hrl:=G.ring d (mG hds)
   have hen:=G.en t (mG hts)
   have hf0:=G.f0 f (mG hfs)
   have hst:=G.st i t f hts hfs
   have p:=G.inv.pos i (by omega)
   have qF:(vw on ds ts fs).F i=f.toNat:=ZO hfs
   have hfm:f<(m:Int):=by have:=p.F;rw[qF] at this;omega
   have hr:=ZC3 G (mG hn)
   simp only[Zds,hol,ZaU (show i<m by omega),cT,Zn hts,Zn hds,Zn hfs,Zn hn,bS,ZhR hd,hrl,show(((64:Nat):Int) != 64)=false from rfl,cF,hen,show((0:Int) != 0)=false from rfl,dF (show ¬f<0 by omega),dF (show ¬(m:Int)<=f by omega),ZA hi (by omega)]
   by_cases hneg:n = -1
   ·rw[dF (show ¬0<=n by omega)]
    simp only[cF]
    rw[hst]
    by_cases q:f=0
    ·rw[q,dF (show ¬(0:Int)<0 by omega)]
     cases t.at_==0<;>cases t.top==0<;>cases t.bottom==0<;>cases t.got==0<;>rfl
    ·rw[show(f != 0)=true from bne_iff_ne.2 q,beq_eq_false_iff_ne.2 q]
     cases t.at_==0<;>cases t.top==0<;>cases t.bottom==0<;>cases t.got==0<;>rfl
   ·have hbz:=G.bz i n t hn hneg hts
    have hF0:f=0:=by
     have qO:(vw on ds ts fs).O i=n:=ZO hn
     have:=(p.busy (by rw[qO];exact hneg)).2
     rw[qF] at this
     omega
    subst hbz
    subst hF0
    have:0<=n:=by rcases hr with e | e;exact absurd e hneg;exact e.1
    rw[dT this]
    rfl) (by simp only[Zds,ZaY];rfl)]
 rfl
def DW (ds:List Za):Prop:=(∀d∈ds,DqW d)/\ds.length<=1000
theorem Zs6 {ds:List Za} (hD:DW ds) {c x:Int}{t:List Za⊕List Za} (h:Zax c x ds=some t) :
  ∃d q,Zt ds c=some d/\Ze2 d x=some q/\((q.2=0/\t = .inl (ds.set c.toNat q.1)/\DW (ds.set c.toNat q.1))∨(q.2≠0/\∃y,t = .inr y)):=by
 unfold Zax at h
 cases hd:Zt ds c with
 | none=>rw[hd] at h;cases h
 | some d=>
  rw[hd,bS] at h
  have hm:=mG (Zi2 _ _ _ hd).2.2
  obtain⟨e1,e2⟩:=ZkP (hD.1 d hm) x
  cases hq:ZbD d x with
  | none=>rw[hq] at h;cases h
  | some q=>
   rw[hq,bS] at h
   refine⟨d,q,rfl,by rw[e1,hq],?_⟩
   by_cases q0:q.2=0
   ·rw[show(q.2==0)=true from beq_iff_eq.2 q0] at h
    refine .inl ⟨q0,(Option.some.inj h).symm,⟨fun y hy=>?_,by rw[length_set];exact hD.2⟩⟩
    rcases ZbX hy with hy | hy
    ·exact hD.1 y hy
    ·rw[hy]
     refine e2 q.1 ?_
     rw[hq,<- q0]
   ·rw[show(q.2==0)=false from beq_eq_false_iff_ne.2 q0] at h
    exact .inr ⟨q0,_,(Option.some.inj h).symm⟩
def ZE6 (onN leftN:List Int) (ts:List Zb) (fs:List Int) (s:Int×(List Za)×(List Int)) (s':Int×(List Int)×(List Int)×(List Za)×(List Zb)×(List Int)×(List Int)):Prop:=
 ∃i ds pushed,s=(i,ds,pushed)/\s'=(i,onN,leftN,ds,ts,fs,pushed)/\DW ds/\pushed.length<=1073741824
def ZA8 (onN leftN:List Int) (ts:List Zb) (fs:List Int) (r:((List Za)×(List Int))⊕((List Za)×(List Int))) (r':((List Int)×(List Int)×(List Za)×(List Zb)×(List Int)×(List Int))⊕((List Int)×(List Int)×(List Za)×(List Zb)×(List Int)×(List Int))):Prop:=
 (∃ds pushed,r = .inr (ds,pushed)/\r' = .inr (onN,leftN,ds,ts,fs,pushed)/\DW ds/\pushed.length<=1073741824)∨(∃x y,r = .inl x/\r' = .inl y)
theorem Zy0 {R S onN leftN:List Int} (hR:R.length<9223372036854775808) {c:Int}{s3:Int×(List Za)×(List Int)}{s3':Int×(List Int)×(List Int)×(List Za)×(List Zb)×(List Int)×(List Int)} (h3:s3.1=c) (h3':s3'.1=c) {ds:List Za}{pushed:List Int} (hD:DW ds) (hp:pushed.length<=1073741824) {r} (hr:lp (Zaa R s3 S) (0,ds,pushed)=some r) :
  ∃r',lp (Zfn R s3' S) (0,onN,leftN,ds,ts,fs,pushed)=some r'/\ZA8 onN leftN ts fs r r':=by
 refine ZuA (ZE6 onN leftN ts fs) (ZA8 onN leftN ts fs) (fun s s' hs t ht=>?_) ⟨0,ds,pushed,rfl,rfl,hD,hp⟩ hr
 obtain⟨i,ds,pushed,rfl,rfl,hD,hp⟩:=hs
 unfold Zaa at ht
 unfold Zfn
 dsimp only at ht ⊢
 by_cases q:i<(S.length:Int)
 ·rw[dT q,cT] at ht ⊢
  cases hx:Zt S i with
  | none=>rw[hx] at ht;cases ht
  | some x=>
   rw[hx,bS,Zhd R x hR,bS] at ht
   rw[bS,Zky R x hR,bS]
   cases hc:R.any fun y=>x==y with
   | false=>
    rw[hc,cF] at ht
    cases Option.some.inj ht
    exact⟨_,rfl,w64 (i+1),ds,pushed,rfl,rfl,hD,hp⟩
   | true=>
    rw[hc,cT,Zhd pushed x (by omega),bS] at ht
    rw[cT,Zky pushed x (by omega),bS]
    cases hc2:pushed.any fun y=>x==y with
    | true=>
     rw[hc2,cT] at ht
     cases Option.some.inj ht
     exact⟨_,rfl,w64 (i+1),ds,pushed,rfl,rfl,hD,hp⟩
    | false=>
     rw[hc2,cF,h3] at ht
     rw[cF,h3']
     cases hpu:Zax c x ds with
     | none=>rw[hpu] at ht;cases ht
     | some u=>
      rw[hpu,bS] at ht
      obtain⟨d,e,hd,he,hcase⟩:=Zs6 hD hpu
      rw[hd,bS,he,bS]
      rcases hcase with⟨e0,rfl,hD2⟩ | ⟨e0,y,rfl⟩
      ·dsimp only at ht
       cases hb:Nat.ble (List.length pushed+1) lim with
       | false=>rw[hb] at ht;cases ht
       | true=>
        rw[hb,cT] at ht
        cases Option.some.inj ht
        have hble:pushed.length+1<=1073741824:=Nat.le_of_ble_eq_true hb
        rw[show(e.2 != 0)=false by rw[e0];rfl,cF]
        unfold ZaE
        dsimp only
        rw[Zar (show ds.length<=1073741824 by have:=hD.2;omega),cT,hd,bS,bS,cT]
        exact⟨_,rfl,w64 (i+1),ds.set c.toNat e.1,pushed++[x],rfl,rfl,hD2,by rw[lA,length_singleton];exact hble⟩
      ·dsimp only at ht
       cases Option.some.inj ht
       rw[show(e.2 != 0)=true from bne_iff_ne.2 e0,cT]
       exact⟨_,rfl,.inr ⟨_,_,rfl,rfl⟩⟩
 ·rw[dF q,cF] at ht ⊢
  cases Option.some.inj ht
  exact⟨_,rfl,.inl ⟨ds,pushed,rfl,rfl,hD,hp⟩⟩
def ZFt (k:Nat) (onN leftN:List Int) (ts:List Zb) (fs:List Int) (s:Int×(List Za)×(List Int)) (s':Int×(List Int)×(List Int)×(List Za)×(List Zb)×(List Int)×(List Int)):Prop:=
 ∃(i:Nat) (ds:List Za) (pushed:List Int),i<=k/\s=((i:Int),ds,pushed)/\s'=((i:Int),onN,leftN,ds,ts,fs,pushed)/\DW ds/\pushed.length<=1073741824
def ZFO (onN leftN:List Int) (ts:List Zb) (fs:List Int) (r:(List Za)⊕(List Za)) (r':((List Int)×(List Int)×(List Za)×(List Zb)×(List Int))⊕((List Int)×(List Int)×(List Za)×(List Zb)×(List Int))):Prop:=
 (∃ds,r = .inr ds/\r' = .inr (onN,leftN,ds,ts,fs))∨(∃x y,r = .inl x/\r' = .inl y)
theorem ZsQ (h:ZM g=0) (G:GangIn g m left row ds ts fs) (cN:ZaB g (ZJ left row) (ZH left row)) {ds':List Za}{done:List Int} (ht:ZbT g.work g.edges row left ds=some (.inr (.inr (ds',done,ZH left row,ZJ left row)))) :
  ∃dn,ZhG g ⟨⟨row,left⟩,ds,ts,fs⟩=some (⟨⟨ZH left row,ZJ left row⟩,ds',ts,fs⟩,dn,0):=by
 obtain⟨hG,_⟩:=ZT h
 have cr:=G.crew
 have hw:=hG.wl
 have hll:=cr.ll
 have o8:=cr.o8
 obtain⟨dn,t1,t2,t3⟩:=ZtE cr (by omega)
 obtain⟨done0,l1,l2⟩:=ZnJ h cr
 have hDW:DW ds:=⟨fun d hd=>by obtain⟨i,hi⟩:=List.getElem?_of_mem hd;exact(Zte G hi).w,by rw[G.dl,<- G.ol];omega⟩
 have hRl:(ZX g.edges (ZJ left row) (ZH left row)).length<9223372036854775808:=by have:=ZeA g.edges (ZJ left row) (ZH left row);rw[ZbV] at this;omega
 unfold ZbT at ht
 rw[Zdf (show row.length<=1073741824 by omega),bS,l1,bS] at ht
 dsimp only at ht
 rw[Zkx h cN,bS] at ht
 cases hr:lp (Zao g.work g.edges row (ZH left row,ZJ left row,done0) (ZX g.edges (ZJ left row) (ZH left row))) (0,ds,[]) with
 | none=>rw[hr] at ht;cases ht
 | some r=>
  rw[hr,bS] at ht
  obtain⟨r',q1,q2⟩:=ZuA (g:=Zec g ⟨⟨row,left⟩,ds,ts,fs⟩ (⟨ZH left row,ZJ left row⟩,dn) (ZX g.edges (ZJ left row) (ZH left row))) (ZFt row.length (ZH left row) (ZJ left row) ts fs) (ZFO (ZH left row) (ZJ left row) ts fs) (fun s s' hs t ht=>by
   obtain⟨i,ds1,pushed,hi,rfl,rfl,hD,hp⟩:=hs
   unfold Zao at ht
   unfold Zec
   dsimp only at ht ⊢
   by_cases q:i<row.length
   ·have hn:=gE q
    have hnm:=getElem_mem q
    generalize row[i]=n at hn hnm
    have hw1:w64 ((i:Int)+1)=((i+1:Nat):Int):=ZA q (by omega)
    have hto:(ZH left row)[i]? = some (Zeu left row n):=by rw[Zcr,List.getElem?_map,hn];rfl
    rw[ZaU q,cT,Zn hn,bS,hw1] at ht ⊢
    by_cases hneg:n = -1
    ·rw[show(n == -1)=true from beq_iff_eq.2 hneg,cT] at ht
     rw[dT (show n<0 by omega),cT]
     cases Option.some.inj ht
     exact⟨_,rfl,i+1,ds1,pushed,by omega,rfl,rfl,hD,hp⟩
    ·have h0:0<=n:=by rcases cr.ok.run n hnm with e | e;exact absurd e hneg;exact e.1.1
     rw[show(n == -1)=false from beq_eq_false_iff_ne.2 hneg,cF,Zn hto,bS] at ht
     rw[dF (show ¬n<0 by omega),cF,Zky dn n (by omega),bS,ZhQ]
     by_cases hf:lf (ZJ left row) n=0
     ·have hin:n∈dn:=(t2 n).2 ⟨hnm,hneg,hf⟩
      have hN:Zeu left row n = -1:=by unfold Zeu;rw[if_neg hneg,if_pos hf]
      rw[hN,show((-1:Int) != -1)=false from rfl,cF,ZBK h n,bS] at ht
      rw[dT hin,cT,ZwW hG n,bS]
      cases h0r:lp (Zaa (ZX g.edges (ZJ left row) (ZH left row)) ((i:Int),ds1,pushed) (Zpv g n)) (0,ds1,pushed) with
      | none=>rw[h0r] at ht;cases ht
      | some r0=>
       rw[h0r,bS] at ht
       obtain⟨r0',z1,z2⟩:=Zy0 (ts:=ts) (fs:=fs) (onN:=ZH left row) (leftN:=ZJ left row) hRl (c:=(i:Int)) (s3:=((i:Int),ds1,pushed)) (s3':=((i:Int),ZH left row,ZJ left row,ds1,ts,fs,pushed)) rfl rfl hD hp h0r
       rw[z1,bS]
       rcases z2 with⟨ds2,p2,rfl,rfl,hD2,hp2⟩ | ⟨x,y,rfl,rfl⟩
       ·cases Option.some.inj ht
        exact⟨_,rfl,i+1,ds2,p2,by omega,rfl,rfl,hD2,hp2⟩
       ·cases Option.some.inj ht
        exact⟨_,rfl,.inr ⟨_,_,rfl,rfl⟩⟩
     ·have hin:n∉dn:=fun e=>hf ((t2 n).1 e).2.2
      have hN:Zeu left row n=n:=by unfold Zeu;rw[if_neg hneg,if_neg hf]
      rw[hN,show(n != -1)=true from bne_iff_ne.2 hneg,cT] at ht
      rw[dF hin,cF]
      cases Option.some.inj ht
      exact⟨_,rfl,i+1,ds1,pushed,by omega,rfl,rfl,hD,hp⟩
   ·have hi2:i=row.length:=by omega
    subst hi2
    rw[ZaY,cF] at ht ⊢
    cases Option.some.inj ht
    exact⟨_,rfl,.inl ⟨ds1,rfl,rfl⟩⟩) ⟨0,ds,[],by omega,rfl,rfl,hDW,by simp⟩ hr
  refine⟨dn,?_⟩
  unfold ZhG
  rw[ZiJ h G,bS,show((0:Int) != 0)=false from rfl,cF]
  dsimp only
  rw[t1,bS,Zk6 hG cN,bS]
  dsimp only
  rw[show lp (Zec g ⟨⟨row,left⟩,ds,ts,fs⟩ (⟨ZH left row,ZJ left row⟩,dn) (ZX g.edges (ZJ left row) (ZH left row))) (0,ZH left row,ZJ left row,ds,ts,fs,[])=_ from q1,bS]
  rcases q2 with⟨ds2,rfl,rfl⟩ | ⟨x,y,rfl,rfl⟩
  ·have e:=congrArg (fun z=>match z with | .inr (.inr (a,_))=>a | _=>[]) (Option.some.inj ht)
   have e:ds2=ds':=e
   rw[e]
  ·cases ht
end
end
theorem ZuR {E:List Zv}{left pre s:List Int}{x:Int}{l:List Int} (h:ZX E left (pre ++ -1 :: s)=x :: l):ZX E left (pre++x :: s)=l:=by
 have nd:=ZkQ E left (pre ++ -1 :: s)
 rw[h] at nd
 have hxl:=(List.nodup_cons.1 nd).1
 have e:ZX E left (pre++x :: s)=(ZX E left (pre ++ -1 :: s)).filter (fun y=>!decide (y=x)):=by
  unfold ZX
  rw[List.filter_map,List.filter_filter]
  congr 1
  refine List.filter_congr fun i _=>?_
  have:decide ((i:Int)∈pre++x :: s)=(decide ((i:Int)∈pre ++ -1 :: s) || decide ((i:Int)=x)):=by
   rw[Bool.eq_iff_iff]
   simp only[decide_eq_true_eq,Bool.or_eq_true,List.mem_append,mem_cons]
   have hne:(i:Int) ≠ -1:=by omega
   constructor
   ·rintro (h | h | h)
    ·exact .inl (.inl h)
    ·exact .inr h
    ·exact .inl (.inr (.inr h))
   ·rintro ((h | h | h) | h)
    ·exact .inl h
    ·exact absurd h hne
    ·exact .inr (.inr h)
    ·exact .inr (.inl h)
  simp only[Function.comp_apply]
  rw[this]
  cases lf left (i:Int)==0<;>cases decide ((i:Int)∈pre ++ -1 :: s)<;>cases ZiH E left (i:Int)<;>cases decide ((i:Int)=x)<;>rfl
 rw[e,h,List.filter_cons_of_neg (by simp)]
 exact List.filter_eq_self.2 fun y hy=>by
  rw[Bool.not_eq_true',decide_eq_false_iff_not]
  rintro rfl
  exact hxl hy
theorem ZA5 {g:Zj}{left on:List Int}{x:Int}{i:Nat} (c:ZaB g left on) (hi:on[i]? = some (-1)) (hx:x∈ZX g.edges left on):ZaB g left (on.set i x):=by
 have hr:∀y∈left,0<=y:=fun y hy=>(c.ok.rng y hy).1
 obtain⟨h1,h2,h3,h4⟩:=(ZkH hr).1 hx
 have hil:=(gQ hi).1
 have other:∀(j:Nat) (n:Int),(on.set i x)[j]? = some n->(j=i/\n=x)∨(j≠i/\on[j]? = some n):=fun j n h=>by
  rw[List.getElem?_set] at h
  by_cases e:i=j
  ·rw[if_pos e,if_pos (by omega)] at h
   exact .inl ⟨e.symm,(Option.some.inj h).symm⟩
  ·rw[if_neg e] at h
   exact .inr ⟨fun q=>e q.symm,h⟩
 refine⟨c.ll,by rw[length_set];exact c.o1,by rw[length_set];exact c.o8,⟨c.ok.rng,fun n hn=>?_,fun j k n hj hk hne=>?_,c.ok.over⟩⟩
 ·obtain⟨j,hj⟩:=List.getElem?_of_mem hn
  rcases other j n hj with⟨_,rfl⟩ | ⟨_,h⟩
  ·exact .inr ⟨h1,h2,h4⟩
  ·exact c.ok.run n (mG h)
 ·rcases other j n hj with⟨rfl,rfl⟩ | ⟨q1,p1⟩
  ·rcases other k n hk with⟨e,_⟩ | ⟨_,p2⟩
   ·exact e.symm
   ·exact absurd (mG p2) h3
  ·rcases other k n hk with⟨rfl,rfl⟩ | ⟨_,p2⟩
   ·exact absurd (mG p1) h3
   ·exact c.ok.one j k n p1 p2 hne
theorem Zm6 {g:Zj} (hG:Zbe g) {left:List Int}{b:Zq} (hb:b.left=left):∀(s pre:List Int),ZaB g left (pre++s)->lp (Zb0 g b) ((pre.length:Int),pre++s)=some (pre++Zbh s (ZX g.edges left (pre++s)))
 | [],pre,c=>by
  rw[Zaj]
  simp only[Zb0,append_nil,ZaY,cF]
  simp[Zbh]
 | n :: s,pre,c=>by
  have h8:=c.o8
  have hlen:pre.length<(pre++n :: s).length:=by simp
  have hget:(pre++n :: s)[pre.length]? = some n:=by simp
  have hw:=ZA hlen (by omega)
  have hset:∀y:Int,(pre++n :: s).set pre.length y=pre++y :: s:=fun y=>by simp
  have hnext:∀y:Int,ZaB g left (pre++y :: s)->lp (Zb0 g b) (((pre.length+1:Nat):Int),pre++y :: s)=some (pre++y :: Zbh s (ZX g.edges left (pre++y :: s))):=fun y c=>by
   have:=Zm6 hG hb s (pre++[y]) (by simpa using c)
   simpa using this
  rw[Zaj]
  simp only[Zb0,ZaU hlen,cT,hb,Zk6 hG c,bS,Zn hget,hw,toNat_natCast]
  unfold Zbh
  cases hn:n == -1 with
  | false=>
   have hne:n ≠ -1:=fun h=>by rw[h] at hn;cases hn
   rw[if_neg hne]
   simp only[cF]
   exact hnext n c
  | true=>
   have he:n = -1:=eq_of_beq hn
   subst he
   rw[if_pos rfl]
   simp only[cT]
   cases hR:ZX g.edges left (pre ++ -1 :: s) with
   | nil=>
    simp only[length_nil,Int.natCast_zero,Int.lt_irrefl,decide_false,cF]
    have:=hnext (-1) c
    rw[hR] at this
    exact this
   | cons x l'=>
    have h0:decide ((0:Int)<(((x :: l').length:Nat):Int))=true:=dT (by simp)
    have hx:Zt (x :: l') 0=some x:=rfl
    simp only[h0,cT,hx,bS,hset]
    have c2:ZaB g left (pre++x :: s):=by
     have:=ZA5 c hget (x:=x) (by rw[hR];exact mem_cons_self)
     rwa [hset] at this
    have:=hnext x c2
    rw[ZuR hR] at this
    exact this
theorem ZyA {g:Zj} (hG:Zbe g) {left on:List Int} (c:ZaB g left on):ZhH g ⟨on,left⟩=some ⟨Zbh on (ZX g.edges left on),left⟩:=by
 have hw:=hG.wl
 have o8:=c.o8
 have ll:=c.ll
 unfold ZhH
 have:=Zm6 hG (b:=⟨on,left⟩) rfl on [] c
 dsimp only
 rw[Zar (show on.length<=1073741824 by omega),cT,Zar (show left.length<=1073741824 by omega),cT,show lp (Zb0 g ⟨on,left⟩) (0,on)=_ from this]
 rfl
theorem Zh5 (l:List Int) (h:l.length<=100000):ZbE l l=some true:=by
 unfold ZbE
 rw[bne_self_eq_false,cF,Zhm l (Zd9 l l) (.inr ()) (fun i x hi hx=>by simp only[Zd9,ZaU hi,cT,Zn hx,bS,bne_self_eq_false,cF,ZA hi (by omega)]) (by simp only[Zd9,ZaY,cF])]
 rfl
theorem Zz0 {d:Za} (h:d.ring.length<=100000):ZhM d d=some true:=by
 unfold ZhM
 rw[Zh5 d.ring h,bS,beq_self_eq_true,beq_self_eq_true]
 rfl
theorem Zsk {on left fs:List Int}{ds:List Za}{ts:List Zb} (ho:on.length<=100000) (hl:left.length<=100000) (hf:fs.length<=100000) (hd:ds.length<=100000) (ht:ts.length<=100000) (hr:∀d∈ds,d.ring.length<=100000):Ze1 ⟨⟨on,left⟩,ds,ts,fs⟩ ⟨⟨on,left⟩,ds,ts,fs⟩=some true:=by
 unfold Ze1 ZkR
 simp only[Zh5 on ho,Zh5 left hl,Zh5 fs hf,bS,cT,cF,bne_self_eq_false]
 rw[Zhm ds _ (.inr ()) (fun i d hi hx=>by simp only[Zfk,ZaU hi,cT,Zn hx,bS,Zz0 (hr d (mG hx)),ZA hi (by omega)]) (by simp only[Zfk,ZaY,cF]),bS]
 dsimp only
 rw[Zhm ts _ (.inr ()) (fun i x hi hx=>by simp only[Zfs,ZaU hi,cT,Zn hx,bS,beq_self_eq_true,bne_self_eq_false,cF,Bool.and_self,Bool.not_true,ZA hi (by omega)]) (by simp only[Zfs,ZaY,cF])]
 rfl
theorem ZpZ {t:List (List Int)} (h:t.length<=100000) (hr:∀r∈t,r.length<=100000):Zes t t=some true:=by
 unfold Zes
 rw[bne_self_eq_false,cF,Zhm t (ZbH t t) (.inr ()) (fun i x hi hx=>by simp only[ZbH,ZaU hi,cT,Zn hx,bS,Zh5 x (hr x (mG hx)),ZA hi (by omega)]) (by simp only[ZbH,ZaY,cF])]
 rfl
theorem Zty (g:Zj) (need:List Int) (c:Int) (hl:need.length<=100000):ZhF g need c=some (Zf9 g need c):=by
 unfold ZhF
 rw[Zdd need (Zd8 need) (fun _ x=>decide (x<1) || decide (1000<x)) (fun _ _=>.inl ()) (.inr ()) (fun i x hi hx=>by
  simp only[Zd8,ZaU hi,cT,Zn hx,bS,ZA hi (by omega)]
  cases decide (x<1)<;>cases decide (1000<x)<;>rfl) (by simp only[Zd8,ZaY];rfl),Zbi,Zg2,bS]
 unfold Zf9
 cases need.any fun n=>decide (n<1) || decide (1000<n)<;>cases ((need.length:Int)==(g.work.length:Int))<;>cases decide (1<=c)<;>cases decide (c<=8)<;>rfl
theorem ZoT {g:Zj} (hs:Zfc g) (need:List Int) (c:Int) (hn:need.length<=100000):ZfG g need c=some (bif ZkT g need c==0 then (⟨List.replicate c.toNat (-1),need⟩,0) else (⟨[],[]⟩,ZkT g need c)):=by
 unfold ZfG
 rw[Zif g hs,bS]
 by_cases h:ZkT g need c=0
 ·have hin:=Zjd.1 h
  have c1:=hin.c1
  have c8:=hin.c8
  have hok:Zf9 g need c=true:=by
   unfold ZkT at h
   rw[hin.ck,show((0:Int)==0)=true from rfl,cT] at h
   cases hq:Zf9 g need c with
   | true=>rfl
   | false=>rw[hq] at h;exact absurd h (by decide)
  have hc:c=((c.toNat:Nat):Int):=by omega
  rw[h,hin.ck,show((0:Int) != 0)=false from rfl,cF,Zty g need c hn,hok,bS,cT]
  have key:=ZjO (c:=c.toNat) (ZdF c) (fun i=>List.replicate i (-1)) (fun s=>s) (fun i hi=>by
   simp only[ZdF,dT (show(i:Int)<c by omega),cT,length_replicate,Zar (show i+1<=1073741824 by omega),ZiR]
   rw[Zcm (by omega)];rfl) (by
   simp only[ZdF,dF (show ¬((c.toNat:Nat):Int)<c by omega)];rfl)
  rw[Zar (show need.length<=1073741824 by omega),cT,show(lp (ZdF c) (0,([]:List Int)))=_ from key]
  rfl
 ·rw[show(ZkT g need c==0)=false from beq_eq_false_iff_ne.2 h,cF]
  by_cases hc:ZM g=0
  ·have hok:Zf9 g need c=false:=by
    unfold ZkT at h
    rw[hc,show((0:Int)==0)=true from rfl,cT] at h
    cases hq:Zf9 g need c with
    | false=>rfl
    | true=>rw[hq] at h;exact absurd rfl h
   rw[show ZkT g need c=100 by unfold ZkT;rw[hc,hok];rfl,hc,show((0:Int) != 0)=false from rfl,cF,Zty g need c hn,hok]
   rfl
  ·rw[show ZkT g need c=ZM g by unfold ZkT;rw[beq_eq_false_iff_ne.2 hc];rfl,show(ZM g != 0)=true from bne_iff_ne.2 hc]
   rfl
structure DqN (k:Nat) (d:Za):Prop where
 w:DqW d
 t:d.top=0
 b0:0<=d.bottom
 bk:d.bottom<=(k:Int)
theorem ZCl {d:Za}{k:Nat} (h:DqN k d) (hk:k<64) (x:Int):∃d',ZbD d x=some (d',0)/\DqN (k+1) d':=by
 have w:=h.w
 have:=h.t;have:=h.b0;have:=h.bk
 have hw:w64 (d.bottom-d.top)=d.bottom-d.top:=Zcm (by omega)
 have hw2:w64 (d.bottom+1)=d.bottom+1:=Zcm (by omega)
 have e:ZbD d x=some (⟨d.ring.set (plc d.bottom) x,d.top,d.bottom+1⟩,0):=by
  unfold ZbD
  rw[ZrE w]
  simp only[bS,show((0:Int) != 0)=false from rfl,cF,hw,hw2,w.len,dF (show ¬d.bottom<d.top by omega),show(d.bottom-d.top==((64:Nat):Int))=false from beq_eq_false_iff_ne.2 (by omega),Zmm w.len,Zh0 w.len,ZiD w.len,toNat_natCast]
 refine⟨_,e,(ZkP w x).2 _ e,h.t,?_,?_⟩
 ·show 0<=d.bottom+1;omega
 ·show d.bottom+1<=((k+1:Nat):Int);omega
theorem ZJf:DqN 0 dq0:=⟨⟨by unfold dq0;simp,by unfold dq0;simp,by unfold dq0;simp,by unfold dq0;simp,by unfold dq0;simp⟩,rfl,by unfold dq0;simp,by unfold dq0;simp⟩
theorem DqN.le {k l:Nat}{d:Za} (h:DqN k d) (hl:k<=l):DqN l d:=⟨h.w,h.t,h.b0,by have:=h.bk;omega⟩
theorem Zvt {c:Int}{R:List Int} (hR:R.length<=64) {ds r:List Za} (hd:∀d∈ds,DqN 0 d) (hl:ds.length<=1000) (hr:lp (Zbj c R) (0,ds)=some r):lp (ZeM c R) (0,ds)=some r:=by
 obtain⟨r',q1,q2⟩:=ZuA (g:=ZeM c R) (fun s s'=>s=s'/\∃i:Nat,i<=R.length/\s.1=(i:Int)/\s.2.length<=1000/\∀d∈s.2,DqN i d) (fun r r'=>r=r') (fun s s' hs t ht=>by
  obtain⟨rfl,i,hi,h1,h2,h3⟩:=hs
  unfold Zbj at ht
  unfold ZeM
  by_cases q:s.1<(R.length:Int)
  ·rw[dT q,cT] at ht ⊢
   cases hx:Zt R s.1 with
   | none=>rw[hx] at ht;cases ht
   | some x=>
    rw[hx,bS] at ht
    rw[bS]
    cases hc:c==0 with
    | true=>rw[hc] at ht;cases ht
    | false=>
     rw[hc,cF] at ht
     rw[cF]
     cases hp:Zax (Int.tmod x c) x s.2 with
     | none=>rw[hp] at ht;cases ht
     | some u=>
      rw[hp,bS] at ht
      obtain⟨d,e,hd,he,hcase⟩:=Zs6 ⟨fun d hd=>(h3 d hd).w,h2⟩ hp
      have hm:=mG (Zi2 _ _ _ hd).2.2
      obtain⟨d',p1,p2⟩:=ZCl (h3 d hm) (show i<64 by omega) x
      rw[(ZkP (h3 d hm).w x).1,p1] at he
      have he:=(Option.some.inj he).symm
      rcases hcase with⟨e0,rfl,_⟩ | ⟨e0,_⟩
      ·cases Option.some.inj ht
       have hw:w64 (s.1+1)=((i+1:Nat):Int):=by rw[h1];rw[Zcm (by omega)];omega
       refine⟨.inl (w64 (s.1+1),List.set s.2 (Int.tmod x c).toNat e.1),?_,rfl,i+1,by omega,hw,by rw[length_set];exact h2,fun y hy=>?_⟩
       ·rw[hd,bS,(ZkP (h3 d hm).w x).1,p1,bS,cF]
        unfold ZfQ
        rw[Zar (show s.2.length<=1073741824 by omega),cT,hd,bS,bS,he]
       ·rcases ZbX hy with hy | hy
        ·exact(h3 y hy).le (by omega)
        ·rw[hy,he];exact p2
      ·rw[he] at e0;exact absurd rfl e0
  ·rw[dF q,cF] at ht ⊢
   cases Option.some.inj ht
   exact⟨_,rfl,rfl⟩) (s':=(0,ds)) ⟨rfl,0,by omega,rfl,hl,hd⟩ hr
 rw[q1,q2]
theorem ZtV {g:Zj}{need:List Int}{c:Int} (hin:Zsz g need c) {ds:List Za} (h:ZfJ g need c=some (.inr (List.replicate c.toNat (-1),ds))) :
  Zi1 g need c=some (⟨⟨List.replicate c.toNat (-1),need⟩,ds,List.replicate c.toNat tk0,List.replicate c.toNat 0⟩,0):=by
 obtain⟨hG,hA⟩:=ZT hin.ck
 have hw:=hG.wl
 have hnl:=hin.nl
 have c1:=hin.c1
 have c8:=hin.c8
 have cr:ZaB g need (List.replicate c.toNat (-1)):=⟨hnl,by rw[length_replicate];omega,by rw[length_replicate];omega,Zrm c.toNat hin.rng⟩
 have hRl:(ZX g.edges need (List.replicate c.toNat (-1))).length<=64:=le_trans (ZeA _ _ _) (by omega)
 have k0:=ZjO (c:=c.toNat) (ZaX c) (fun i=>List.replicate i dq0) (fun s=>s) (fun i hi=>by
  simp only[ZaX,dT (show(i:Int)<c by omega),cT,Zsq,bS,length_replicate,Zar (show i+1<=1073741824 by omega),ZiR]
  rw[Zcm (by omega)];rfl) (by simp only[ZaX,dF (show ¬((c.toNat:Nat):Int)<c by omega)];rfl)
 have k0:lp (ZaX c) (0,([]:List Za))=some (List.replicate c.toNat dq0):=k0
 have k1:=ZjO (c:=c.toNat) (Zdi c) (fun i=>(List.replicate i dq0,List.replicate i tk0,List.replicate i (0:Int))) (fun s=>s) (fun i hi=>by
  simp only[Zdi,dT (show(i:Int)<c by omega),cT,length_replicate,Zar (show i+1<=1073741824 by omega)]
  rw[Zcm (by omega),show(Za.mk (List.replicate (64:Int).toNat (0:Int)) 0 0)=dq0 from rfl,show(Zb.mk false 0 0 0 0 0)=tk0 from rfl,ZiR,ZiR,ZiR];rfl) (by simp only[Zdi,dF (show ¬((c.toNat:Nat):Int)<c by omega)];rfl)
 have k1:lp (Zdi c) (0,([]:List Za),([]:List Zb),([]:List Int))=some (List.replicate c.toNat dq0,List.replicate c.toNat tk0,List.replicate c.toNat (0:Int)):=k1
 unfold ZfJ at h
 rw[ZpJ hG.short,Zjd.2 hin] at h
 simp only[beq_self_eq_true,cT,bS] at h
 rw[dT (show(0:Int)<=c by omega),dT (show c<=lim by show c<=1073741824;omega)] at h
 simp only[decide_true,Bool.and_true,cT,k0,bS,Zkx hin.ck cr] at h
 cases hr:lp (Zbj c (ZX g.edges need (List.replicate c.toNat (-1)))) (0,List.replicate c.toNat dq0) with
 | none=>rw[hr] at h;cases h
 | some r=>
  rw[hr,bS] at h
  have e:r=ds:=congrArg (fun z=>match z with | .inr (_,a)=>a | _=>[]) (Option.some.inj h)
  subst e
  have hr2:=Zvt hRl (fun d hd=>by rw[(List.mem_replicate.1 hd).2];exact ZJf) (by rw[length_replicate];omega) hr
  unfold Zi1
  rw[ZoT hG.short need c (by omega),Zjd.2 hin,show((0:Int)==0)=true from rfl,cT,bS]
  dsimp only
  rw[show((0:Int) != 0)=false from rfl,cF,k1,bS,Zk6 hG cr,bS]
  dsimp only
  rw[hr2]
  rfl
section
def Zlj (need:List Int) (m:Nat) (t:List (List Int)):List Int×List Int:=t.foldl (fun s row=>(ZJ s.1 row,ZH s.1 row)) (need,List.replicate m (-1))
theorem Zwp (need:List Int) (m:Nat) (t:List (List Int)) (row:List Int):Zlj need m (t++[row])=(ZJ (Zlj need m t).1 row,ZH (Zlj need m t).1 row):=by
 unfold Zlj
 rw[List.foldl_append]
 rfl
theorem Sched.fold {E:List Zv}{need:List Int}{m:Nat}{t:List (List Int)}{left on:List Int} (s:Sched E need m t left on):Zlj need m t=(left,on):=by
 induction s with
 | nil=>rfl
 | snoc _ _ _ ih=>rw[Zwp,ih]
theorem Zoc {α:Type}{l:List α}{i:Nat}{x:α} (h:l[i]? = some x):l.take (i+1)=l.take i++[x]:=by rw[List.take_add_one,h];rfl
theorem Sched.pre {E:List Zv}{need:List Int}{m:Nat}{t:List (List Int)}{left on:List Int} (s:Sched E need m t left on):∀(k:Nat) (row:List Int),t[k]? = some row ->
  Sched E need m (t.take k) (Zlj need m (t.take k)).1 (Zlj need m (t.take k)).2/\(∃n,isN (Zlj need m (t.take k)).1 n/\0<lf (Zlj need m (t.take k)).1 n)/\Zfi E (Zlj need m (t.take k)).1 (Zlj need m (t.take k)).2 row:=by
 induction s with
 | nil=>intro k row h;cases h
 | @snoc t left on r s hp f ih=>
  intro k row h
  by_cases hk:k<t.length
  ·rw[List.getElem?_append_left hk] at h
   rw[List.take_append_of_le_length (by omega)]
   exact ih k row h
  ·have hk2:k=t.length:=by
    have:=(gQ h).1
    rw[lA,length_singleton] at this
    omega
   subst hk2
   rw[List.getElem?_append_right (Nat.le_refl _),Nat.sub_self] at h
   cases h
   rw[List.take_append_of_le_length (Nat.le_refl _),List.take_length,s.fold]
   exact⟨s,hp,f⟩
section
variable {g:Zj} {need:List Int} {m k:Nat} {t:List (List Int)} {left on ran ends row:List Int} {last:List ZaI}
end
end
def fat (l:List Int) (z:Int):Int:=match l[z.toNat]? with | some x=>x | none=>0
def ZHP (w far:List Int) (e:Zv):List Int:=bif decide (fat far e.dst<fat far e.src+fat w e.dst) then far.set e.dst.toNat (fat far e.src+fat w e.dst) else far
def ZDC (w:List Int) (E:List Zv) (far:List Int):List Int:=E.foldl (ZHP w) far
def rounds (w:List Int) (E:List Zv):Nat->List Int->List Int
 | 0,far=>far
 | k+1,far=>rounds w E k (ZDC w E far)
section
section
variable {g:Zj} {need:List Int} {c:Int} {t:List (List Int)} {left on:List Int}
theorem ZD6 {g:Zj} (h:ZM g=0):ZfD g=some g.work.sum:=by
 obtain⟨hG,hA⟩:=ZT h
 unfold ZfD
 rw[ZeC g hG.short,h,bS,beq_self_eq_true,cT,Zpr hG.w hG.wl (Zez g) (fun i s x hi hx=>by simp only[Zez,ZaU hi,cT,Zn hx,bS]) (fun s=>by simp only[Zez,ZaY];rfl)]
 rfl
end
end
def ZbS (n:Int):Bool:=decide (n<1) || decide (1000<n)
theorem Zo2 (n:Int):ZbG n=some (ZbS n):=by
 unfold ZbG ZbS
 cases decide (n<1)<;>cases decide (1000<n)<;>rfl
def Zfa (g:Zj) (dem:List Int):Bool:=((dem.length:Int)==(g.work.length:Int))&&(!(dem.any ZbS) && !(g.work.any ZbS))
theorem ZlC {g:Zj} (hs:Zfc g) {dem:List Int} (hd:dem.length<=70):ZhW g dem=some (Zfa g dem):=by
 have hw:=hs.w
 unfold ZhW Zfa
 cases (dem.length:Int)==(g.work.length:Int) with
 | false=>rfl
 | true=>
  simp only[cT,Bool.true_and]
  rw[Zff dem _ ZbS (fun x _=>Zo2 x) (by omega),bS]
  cases dem.any ZbS with
  | true=>rfl
  | false=>
   simp only[cF,Bool.not_false,Bool.true_and]
   rw[Zff g.work _ ZbS (fun x _=>Zo2 x) (by omega),bS]
   cases g.work.any ZbS<;>rfl
structure Zpt (g:Zj) (dem:List Int) (c:Int):Prop where
 ck:ZM g=0
 dl:dem.length=g.work.length
 dr:∀x∈dem,1<=x/\x<=1000
 wr:∀x∈g.work,1<=x/\x<=1000
 c1:1<=c
 c8:c<=8
noncomputable def Zhv (g:Zj) (dem:List Int) (c:Int):Int:=bif ZM g==0 then (bif Zfa g dem&&(decide (1<=c)&&decide (c<=8)) then 0 else 190) else ZM g
theorem ZvA {g:Zj}{dem:List Int}{c:Int}:Zhv g dem c=0↔Zpt g dem c:=by
 have an:∀l:List Int,(!(l.any ZbS))=true↔∀x∈l,1<=x/\x<=1000:=fun l=>by
  rw[Bool.not_eq_true',List.any_eq_false]
  constructor
  ·intro h x hx
   have:=h x hx
   simp[ZbS] at this
   omega
  ·intro h x hx
   have:=h x hx
   simp[ZbS]
   omega
 unfold Zhv
 cases hc:ZM g==0 with
 | false=>
  have hne:ZM g≠0:=fun h=>by rw[h] at hc;cases hc
  simp only[cF]
  exact⟨fun h=>absurd h hne,fun h=>absurd h.ck hne⟩
 | true=>
  have hck:=eq_of_beq hc
  simp only[cT]
  cases hr:Zfa g dem&&(decide (1<=c)&&decide (c<=8)) with
  | false=>
   simp only[cF]
   refine⟨fun h=>absurd h (by decide),fun h=>?_⟩
   have:(Zfa g dem&&(decide (1<=c)&&decide (c<=8)))=true:=by
    unfold Zfa
    rw[(an dem).2 h.dr,(an g.work).2 h.wr,dT h.c1,dT h.c8,h.dl]
    simp
   rw[hr] at this
   cases this
  | true=>
   simp only[cT,true_iff]
   unfold Zfa at hr
   simp only[aT] at hr
   obtain⟨⟨h1,h2,h3⟩,h4,h5⟩:=hr
   exact⟨hck,by have:=eq_of_beq h1;omega,(an dem).1 h2,(an g.work).1 h3,of_decide_eq_true h4,of_decide_eq_true h5⟩
def Zap (g:Zj) (dem:List Int):List Int:=List.zipWith (fun w d:Int=>bif decide (w<d) then w else d) g.work dem
theorem Zq5 {g:Zj}{dem:List Int} (hl:dem.length=g.work.length) (hw:g.work.length<=64):Zg4 g dem=some (Zap g dem):=by
 have key:∀(k i:Nat),i+k=g.work.length->lp (Zdl g dem) ((i:Int),(Zap g dem).take i)=some (Zap g dem):=by
  have hnl:(Zap g dem).length=g.work.length:=by unfold Zap;rw[List.length_zipWith];omega
  intro k
  induction k with
  | zero=>
   intro i hi
   have e:i=g.work.length:=by omega
   subst e
   rw[Zaj]
   simp only[Zdl,ZaY,cF]
   rw[List.take_of_length_le (by omega)]
  | succ k ih=>
   intro i hi
   have hlt:i<g.work.length:=by omega
   have hw1:g.work[i]? = some g.work[i]:=gE hlt
   have hd1:dem[i]? = some dem[i]:=gE (by omega)
   have hn:(Zap g dem)[i]? = some (bif decide (g.work[i]<dem[i]) then g.work[i] else dem[i]):=by
    unfold Zap
    rw[List.getElem?_zipWith,hw1,hd1]
   rw[Zaj]
   simp only[Zdl,ZaU hlt,cT,Zn hw1,Zn hd1,bS,Zar (show((Zap g dem).take i).length+1<=1073741824 by rw[length_take];omega),ZA hlt (by omega)]
   have:=ih (i+1) (by omega)
   rw[Zoc hn] at this
   exact this
 unfold Zg4
 have:=key g.work.length 0 (by omega)
 rw[List.take_zero] at this
 rw[show lp (Zdl g dem) (0,([]:List Int))=_ from this]
 rfl
theorem ZjL {g:Zj}{dem:List Int} (hl:dem.length=g.work.length):(Zap g dem).length=g.work.length:=by unfold Zap;rw[List.length_zipWith];omega
theorem Zpt.need {g:Zj}{dem:List Int}{c:Int} (h:Zpt g dem c):Zsz g (Zap g dem) c:=by
 refine⟨h.ck,ZjL h.dl,fun x hx=>?_,h.c1,h.c8⟩
 obtain⟨i,hi⟩:=List.getElem?_of_mem hx
 unfold Zap at hi
 rw[List.getElem?_zipWith] at hi
 cases hw:g.work[i]? with
 | none=>rw[hw] at hi;simp at hi
 | some w=>
  cases hd:dem[i]? with
  | none=>rw[hw,hd] at hi;simp at hi
  | some d=>
   rw[hw,hd] at hi
   simp only[sJ] at hi
   have h1:=h.wr w (mG hw)
   have h2:=h.dr d (mG hd)
   rw[<- hi]
   cases decide (w<d)<;>simp<;>omega
def Bad (g:Zj) (dem:List Int) (n:Int):Prop:=lf g.work n<lf dem n
def Zmy (g:Zj) (dem left:List Int) (k:Nat):Bool:=(List.range k).any fun i=>(lf left (i:Int)==0)&&decide (lf g.work (i:Int)<lf dem (i:Int))
def Zgi (left:List Int) (k:Nat):Bool:=(List.range k).any fun i=>decide (0<lf left (i:Int))
def Zbd (g:Zj) (dem left:List Int):Int:=bif Zmy g dem left left.length then 3 else bif Zgi left left.length then 1 else 2
theorem Zia (k:Nat) (p:Nat->Bool):(List.range (k+1)).any p=((List.range k).any p || p k):=by rw[List.range_succ,List.any_append];simp
theorem Zl1 {g:Zj}{dem left:List Int} (hd:dem.length=g.work.length) (hl:left.length=g.work.length) (hw:g.work.length<=64) (hr:∀x∈left,0<=x):Zcb g dem left=some (Zbd g dem left):=by
 have key:∀(k i:Nat),i+k=left.length->Zmy g dem left i=false->lp (Zbn g dem left) ((bif Zgi left i then 1 else 2),(i:Int))=some (bif Zmy g dem left left.length then .inl (bif Zgi left i then 1 else 2) else .inr (bif Zgi left left.length then 1 else 2)) ∨
   (Zmy g dem left left.length=true/\∃x,lp (Zbn g dem left) ((bif Zgi left i then 1 else 2),(i:Int))=some (.inl x)):=by
  intro k
  induction k with
  | zero=>
   intro i hi hb
   have e:i=left.length:=by omega
   subst e
   left
   rw[Zaj]
   simp only[Zbn,ZaY,cF,hb]
  | succ k ih=>
   intro i hi hb
   have hlt:i<left.length:=by omega
   have hL:isN left (i:Int):=⟨by omega,by simpa using hlt⟩
   have e1:Zt left (i:Int)=some (lf left (i:Int)):=Zkf hL
   have e2:Zt dem (i:Int)=some (lf dem (i:Int)):=Zkf ⟨by omega,by simp;omega⟩
   have e3:Zt g.work (i:Int)=some (lf g.work (i:Int)):=Zkf ⟨by omega,by simp;omega⟩
   have h0:0<=lf left (i:Int):=hr _ (mG (ZjB hL.1 hL.2))
   have hw':=ZA hlt (by omega)
   have hbs:Zmy g dem left (i+1)=((lf left (i:Int)==0)&&decide (lf g.work (i:Int)<lf dem (i:Int))):=by
    have:=Zia i (fun i=>(lf left (i:Int)==0)&&decide (lf g.work (i:Int)<lf dem (i:Int)))
    show(List.range (i+1)).any _=_
    rw[this,show(List.range i).any _=false from hb,Bool.false_or]
   have hss:Zgi left (i+1)=(Zgi left i || decide (0<lf left (i:Int))):=Zia i _
   rw[Zaj]
   simp only[Zbn,ZaU hlt,cT,e1,e2,e3,bS,hw']
   by_cases hp:0<lf left (i:Int)
   ·have hz:(lf left (i:Int)==0)=false:=beq_eq_false_iff_ne.2 (by omega)
    have hn:=ih (i+1) (by omega) (by rw[hbs,hz];rfl)
    rw[hss,dT hp,Bool.or_true,cT] at hn
    rw[dT hp]
    simp only[cT,hz,cF]
    cases hs:Zgi left i with
    | true=>
     simp only[cT]
     rw[show((1:Int)==2)=false from rfl]
     simp only[cF]
     rcases hn with hn | hn
     ·left;rw[hn]
     ·right;exact hn
    | false=>
     simp only[cF]
     rw[show((2:Int)==2)=true from rfl]
     simp only[cT]
     rcases hn with hn | ⟨hn1,x,hn2⟩
     ·cases hbb:Zmy g dem left left.length with
      | true=>right;rw[hbb] at hn;exact⟨rfl,1,hn⟩
      | false=>left;rw[hbb] at hn;exact hn
     ·right;exact⟨hn1,x,hn2⟩
   ·have hz:(lf left (i:Int)==0)=true:=beq_iff_eq.2 (by omega)
    rw[dF hp]
    simp only[cF,hz,cT]
    rw[hz,Bool.true_and] at hbs
    rw[dF hp,Bool.or_false] at hss
    cases hq:decide (lf g.work (i:Int)<lf dem (i:Int)) with
    | true=>
     right
     refine⟨?_,_,rfl⟩
     unfold Zmy
     rw[any_eq_true]
     exact⟨i,List.mem_range.2 hlt,by rw[hz,hq];rfl⟩
    | false=>
     have hn:=ih (i+1) (by omega) (by rw[hbs,hq])
     rw[hss] at hn
     simp only[cF]
     exact hn
 unfold Zcb Zbd
 have h0:=key left.length 0 (by omega) rfl
 have hs0:Zgi left 0=false:=rfl
 rw[hs0] at h0
 simp only[cF] at h0
 rcases h0 with h0 | ⟨h1,x,h2⟩
 ·rw[show lp (Zbn g dem left) (2,0)=_ from h0]
  cases Zmy g dem left left.length<;>rfl
 ·rw[show lp (Zbn g dem left) (2,0)=_ from h2,h1]
  rfl
theorem Znq {g:Zj}{dem left:List Int}:Zbd g dem left=1↔Zmy g dem left left.length=false/\Zgi left left.length=true:=by
 unfold Zbd
 cases Zmy g dem left left.length<;>cases Zgi left left.length<;>simp
theorem ZpH {left:List Int}:Zgi left left.length=true↔∃n,isN left n/\0<lf left n:=by
 unfold Zgi
 rw[any_eq_true]
 constructor
 ·rintro ⟨i,h1,h2⟩
  exact⟨(i:Int),⟨by omega,by have:=List.mem_range.1 h1;simpa using this⟩,of_decide_eq_true h2⟩
 ·rintro ⟨n,h1,h2⟩
  refine⟨n.toNat,List.mem_range.2 h1.2,?_⟩
  rw[show((n.toNat:Nat):Int)=n by have:=h1.1;omega]
  exact dT h2
theorem ZvU {g:Zj}{dem left:List Int}:Zmy g dem left left.length=true↔∃n,isN left n/\lf left n=0/\Bad g dem n:=by
 unfold Zmy Bad
 rw[any_eq_true]
 constructor
 ·rintro ⟨i,h1,h2⟩
  rw[aT] at h2
  exact⟨(i:Int),⟨by omega,by have:=List.mem_range.1 h1;simpa using this⟩,eq_of_beq h2.1,of_decide_eq_true h2.2⟩
 ·rintro ⟨n,h1,h2,h3⟩
  refine⟨n.toNat,List.mem_range.2 h1.2,?_⟩
  rw[show((n.toNat:Nat):Int)=n by have:=h1.1;omega,h2,aT]
  exact⟨rfl,dT h3⟩
def Zwi (g:Zj) (m:Nat) (left on:List Int) (ds:List Za) (ts:List Zb) (fs:List Int):Bool->Prop
 | true=>Zoj g m left on ds ts fs
 | false=>(ds=[]/\ts=[]/\fs=[])/\ZaB g left on/\on.length=m
theorem Zwi.crew {g:Zj}{m:Nat}{left on fs:List Int}{ds:List Za}{ts:List Zb}:∀{d:Bool},Zwi g m left on ds ts fs d->ZaB g left on/\on.length=m
 | true,h=>⟨GangIn.crew (Zoj.toGangIn h),GangIn.ol (Zoj.toGangIn h)⟩
 | false,h=>h.2
theorem Zgw {g:Zj} (h:ZM g=0) {left on row:List Int} (c:ZaB g left on) (F:Zfi g.edges left on row):ZaB g (ZJ left row) (ZH left row):=by
 obtain⟨hG,hA⟩:=ZT h
 have l1:(ZH left row).length=on.length:=by unfold ZH;rw[length_map,F.len]
 exact⟨by rw[ZbV];exact c.ll,by rw[l1];exact c.o1,by rw[l1];exact c.o8,F.next (by rw[c.ll];exact ZgZ hG) c.ok⟩
theorem ZBs {g:Zj} (h:ZM g=0) {left on row:List Int} (c:ZaB g left on) (F:Zfi g.edges left on row):ZaB g left row:=by
 refine⟨c.ll,by rw[F.len];exact c.o1,by rw[F.len];exact c.o8,⟨c.ok.rng,F.row_in c.ok,F.one,c.ok.over⟩⟩
theorem ZmR:((0:Int) != 0)=false:=rfl
def ZzN:ZW:=⟨false,[],0,⟨⟨[],[]⟩,[],[],[]⟩⟩
theorem Zop {g:Zj}{dem:List Int}{c:Int} (hs:Zfc g) (hd:dem.length<=70) (h:Zhv g dem c≠0) (d:Bool):ZeI g dem c d=some (ZzN,Zhv g dem c):=by
 unfold ZeI
 rw[ZeC g hs,bS]
 unfold Zhv at h ⊢
 cases hc:ZM g==0 with
 | false=>
  have:(ZM g != 0)=true:=by rw[bne,hc];rfl
  rw[this,cT,cF]
  rfl
 | true=>
  have:(ZM g != 0)=false:=by rw[bne,hc];rfl
  rw[this,cF,cT,ZlC hs hd,bS]
  rw[hc,cT] at h
  cases hr:Zfa g dem with
  | false=>rfl
  | true=>
   rw[hr,Bool.true_and] at h
   simp only[cT,Bool.true_and]
   by_cases h1:c<1
   ·rw[dT h1,dF (show ¬1<=c by omega)]
    rfl
   ·by_cases h8:8<c
    ·rw[dF h1,dT h8,dF (show ¬c<=8 by omega),Bool.and_false]
     rfl
    ·rw[dT (show 1<=c by omega),dT (show c<=8 by omega)] at h
     exact absurd rfl h
theorem Zrx:∀(l:List Int),(∀x∈l,0<=x)->∀x∈l,x<=l.sum
 | [],_,_,h=>by cases h
 | y :: l,h,x,hx=>by
  have h0:0<=l.sum:=by
   have:∀(l:List Int),(∀x∈l,0<=x)->0<=l.sum:=by
    intro l
    induction l with
    | nil=>intro _;simp
    | cons z l ih=>intro h;rw[sum_cons];have h1:=h z (by simp);have h2:=ih fun w hw=>h w (by simp[hw]);omega
   exact this l fun z hz=>h z (by simp[hz])
  rw[sum_cons]
  rcases List.mem_cons.1 hx with rfl | hx
  ·omega
  ·have h1:=Zrx l (fun z hz=>h z (by simp[hz])) x hx
   have h2:=h y (by simp)
   omega
structure Zyr (g:Zj) (dem:List Int) (c:Int) (t:List (List Int)) (left on:List Int):Prop where
 sched:Sched g.edges (Zap g dem) c.toNat t left on
 fin:Zbd g dem left≠1
 pre:∀k,k<t.length->Zbd g dem (Zlj (Zap g dem) c.toNat (t.take k)).1=1
 short:t.length<=4096
theorem Zuq {g:Zj}{dem picks:List Int}{c:Int} (hs:Zfc g) (hd:dem.length<=70) (h:Zhv g dem c≠0) (d:Bool):ZgD g dem c d picks=some ([],0,Zhv g dem c):=by
 unfold ZgD
 rw[Zop hs hd h d,bS]
 simp only[show(Zhv g dem c != 0)=true from bne_iff_ne.2 h,cT]
theorem Zzf {g:Zj} (hs:Zfc g):∃x,ZfD g=some x/\(ZM g=0->x=g.work.sum):=by
 cases hc:ZM g==0 with
 | true=>exact⟨_,ZD6 (eq_of_beq hc),fun _=>rfl⟩
 | false=>
  have hne:ZM g≠0:=fun h=>by rw[h] at hc;cases hc
  refine⟨0,?_,fun h=>absurd h hne⟩
  unfold ZfD
  rw[ZeC g hs,bS,hc]
  rfl
theorem Zuv (g:Zj) (dem:List Int):∃b,Zf6 g dem=some b/\(b=true->Zxi g=true/\dem.length<=70/\(ZM g=0->g.work.sum<=300)):=by
 unfold Zf6
 rw[ZFE,bS]
 cases hf:Zxi g with
 | false=>exact⟨false,rfl,fun h=>by cases h⟩
 | true=>
  obtain⟨hw,he,hsh⟩:=ZuE hf
  rw[cT]
  by_cases hl:(dem.length:Int)<=70
  ·rw[dT hl,cT,ZzC hf,bS]
   obtain⟨x,h1,h2⟩:=Zzf hsh
   rw[h1,bS]
   by_cases hx:x<=300
   ·rw[dT hx]
    exact⟨true,rfl,fun _=>⟨rfl,by omega,fun hc=>by rw[<- h2 hc];exact hx⟩⟩
   ·rw[dF hx]
    exact⟨false,rfl,fun h=>by cases h⟩
  ·rw[dF hl]
   exact⟨false,rfl,fun h=>by cases h⟩
theorem ZqU {l:List Int} (h:l.length<=100000):ZeV l=some ():=by
 unfold ZeV
 rw[Zar (show l.length<=1073741824 by omega)]
 rfl
theorem ZxU:∀(w d:List Int),w.length=d.length->(List.zipWith (fun w d:Int=>bif decide (w<d) then w else d) w d).sum<=w.sum
 | [],d,h=>by simp
 | x :: w,[],h=>by simp at h
 | x :: w,y :: d,h=>by
  rw[List.zipWith_cons_cons,sum_cons,sum_cons]
  have:=ZxU w d (by simpa using h)
  by_cases hx:x<y
  ·rw[dT hx,cT];omega
  ·rw[dF hx,cF];omega
theorem ZAr {g:Zj}{dem:List Int} (h:dem.length=g.work.length):(Zap g dem).sum<=g.work.sum:=ZxU _ _ h.symm
def Ztt (g:Zj) (dem:List Int) (k:Nat):Bool:=(List.range k).any fun i=>decide (lf g.work (i:Int)<lf dem (i:Int))
theorem Zyr.state {g:Zj}{dem:List Int}{c:Int}{t:List (List Int)}{left on:List Int} (hin:Zpt g dem c) (R:Zyr g dem c t left on):Zbd g dem left=bif Ztt g dem dem.length then 3 else 2:=by
 have hll:=R.sched.len.1
 have hnl:=hin.need.nl
 have hG:=(ZT hin.ck).1
 have hr:=R.sched.crew (fun x hx=>hin.need.rng x hx) (by rw[hnl];exact ZgZ hG)
 have hdl:=hin.dl
 have hlen:left.length=dem.length:=by omega
 cases hb:Zmy g dem left left.length with
 | true=>
  obtain⟨n,h1,h2,h3⟩:=ZvU.1 hb
  have:Ztt g dem dem.length=true:=by
   unfold Ztt
   rw[any_eq_true]
   refine⟨n.toNat,List.mem_range.2 (by rw[<- hlen];exact h1.2),?_⟩
   rw[show((n.toNat:Nat):Int)=n by have:=h1.1;omega]
   exact dT (show lf g.work n<lf dem n from h3)
  unfold Zbd
  rw[hb,this]
  rfl
 | false=>
  cases hs:Zgi left left.length with
  | true=>exact absurd (Znq.2 ⟨hb,hs⟩) R.fin
  | false=>
   have:Ztt g dem dem.length=false:=by
    cases ho:Ztt g dem dem.length with
    | false=>rfl
    | true=>
     unfold Ztt at ho
     obtain⟨i,h1,h2⟩:=List.any_eq_true.1 ho
     have hi:=List.mem_range.1 h1
     have hn:isN left (i:Int):=⟨by omega,by simp;omega⟩
     have h0:lf left (i:Int)=0:=by
      have hge:=(ZrQ hr (i:Int)).1
      apply Classical.byContradiction
      intro hne
      have:=ZpH.2 ⟨(i:Int),hn,by omega⟩
      rw[hs] at this
      cases this
     have h3:lf g.work (i:Int)<lf dem (i:Int):=of_decide_eq_true h2
     have:=ZvU.2 ⟨(i:Int),hn,h0,h3⟩
     rw[hb] at this
     cases this
   unfold Zbd
   rw[hb,hs,this]
   rfl
theorem ZDj {xs:List D} (h:Ze8 [.bool] xs):∃b:Bool,ZkF false xs=D.bool b:=by
 obtain⟨_,_,rfl,⟨b,rfl⟩,rfl⟩:=h
 exact⟨b,rfl⟩
theorem ZnV {g:Zj} (hG:Zbe g) {dem:List Int} (hd:dem.length<=70):Zcl g dem=some (Zfa g dem):=by
 unfold Zcl Zfa
 by_cases hl:dem.length=g.work.length
 ·rw[show((dem.length:Int) != (g.work.length:Int))=false by rw[hl];simp,cF,show((dem.length:Int)==(g.work.length:Int))=true from beq_iff_eq.2 (by rw[hl]),Bool.true_and]
  rw[Zdd dem (ZdG g dem) (fun i x=>decide (x<1) || (decide (1000<x) || decide (lf g.work (i:Int)<1))) (fun _ _=>.inl ()) (.inr ()) (fun i x hi hx=>by
   have hin:isN g.work (i:Int):=⟨by omega,by rw[toNat_natCast];omega⟩
   simp only[ZdG,ZaU hi,cT,Zn hx,Zkf hin,bS,ZA hi (by omega)]
   cases decide (x<1)<;>cases decide (1000<x)<;>cases decide (lf g.work (i:Int)<1)<;>rfl) (by simp only[ZdG,ZaY];rfl),Zbi,bS]
  have e:ZhU (fun(i:Nat) (x:Int)=>decide (x<1) || (decide (1000<x) || decide (lf g.work (i:Int)<1))) 0 dem=(dem.any ZbS || g.work.any ZbS):=by
   rw[Bool.eq_iff_iff,ZjX,Bool.or_eq_true,any_eq_true,any_eq_true]
   constructor
   ·rintro ⟨j,x,hx,h⟩
    rw[zero_add] at h
    have hj:=(gQ hx).1
    cases h1:decide (x<1) with
    | true=>exact .inl ⟨x,mG hx,by unfold ZbS;rw[h1];rfl⟩
    | false=>
     cases h2:decide (1000<x) with
     | true=>exact .inl ⟨x,mG hx,by unfold ZbS;rw[h1,h2];rfl⟩
     | false=>
      rw[h1,h2,Bool.false_or,Bool.false_or] at h
      exact .inr ⟨lf g.work (j:Int),mG (ZjB (n:=(j:Int)) (by omega) (by rw[toNat_natCast];omega)),by unfold ZbS;rw[h];rfl⟩
   ·rintro (⟨x,hx,h⟩ | ⟨x,hx,h⟩)
    ·obtain⟨j,hj⟩:=List.getElem?_of_mem hx
     refine⟨j,x,hj,?_⟩
     unfold ZbS at h
     cases h1:decide (x<1) with
     | true=>rfl
     | false=>rw[h1,Bool.false_or] at h;rw[h];rfl
    ·obtain⟨j,hj⟩:=List.getElem?_of_mem hx
     have hjl:=(gQ hj).1
     have hw:=hG.w x hx
     refine⟨j,_,gE (show j<dem.length by omega),?_⟩
     unfold ZbS at h
     rw[dF (show ¬1000<x by omega),Bool.or_false] at h
     rw[zero_add,Zmd hj,h,Bool.or_true,Bool.or_true]
  rw[e]
  cases dem.any ZbS<;>cases g.work.any ZbS<;>rfl
 ·rw[show((dem.length:Int) != (g.work.length:Int))=true from bne_iff_ne.2 (by omega),show((dem.length:Int)==(g.work.length:Int))=false from beq_eq_false_iff_ne.2 (by omega)]
  rfl
theorem Zms {g:Zj}{dem:List Int} (hl:dem.length=g.work.length) (hw:g.work.length<=64):Zbk g dem=some (Zap g dem):=by
 have hnl:(Zap g dem).length=g.work.length:=ZjL hl
 have key:∀(k i:Nat),i+k=g.work.length->lp (ZcR g dem) ((i:Int),(Zap g dem).take i)=some (Zap g dem):=by
  intro k
  induction k with
  | zero=>
   intro i hi
   have e:i=dem.length:=by omega
   subst e
   rw[Zaj]
   simp only[ZcR,ZaY,cF]
   rw[List.take_of_length_le (by omega)]
  | succ k ih=>
   intro i hi
   have hlt:i<dem.length:=by omega
   have hw1:g.work[i]? = some g.work[i]:=gE (by omega)
   have hd1:dem[i]? = some dem[i]:=gE hlt
   have hn:(Zap g dem)[i]? = some (bif decide (g.work[i]<dem[i]) then g.work[i] else dem[i]):=by
    unfold Zap
    rw[List.getElem?_zipWith,hw1,hd1]
   rw[Zaj]
   simp only[ZcR,ZaU hlt,cT,Zn hw1,Zn hd1,bS,Zar (show((Zap g dem).take i).length+1<=1073741824 by rw[length_take];omega),ZA hlt (by omega)]
   have:=ih (i+1) (by omega)
   rw[Zoc hn] at this
   exact this
 unfold Zbk
 have:=key g.work.length 0 (by omega)
 rw[List.take_zero] at this
 rw[show lp (ZcR g dem) (0,([]:List Int))=_ from this]
 rfl
theorem ZkG {g:Zj}{dem left:List Int} (hd:dem.length=g.work.length) (hl:left.length=g.work.length) (hw:g.work.length<=64):ZaZ g dem left=some (Zbd g dem left):=by
 have key:∀(k i:Nat),i+k=left.length->lp (Zcn left) ((bif Zgi left i then 1 else 2),(i:Int))=some (bif Zgi left left.length then 1 else 2):=by
  intro k
  induction k with
  | zero=>
   intro i hi
   have e:i=left.length:=by omega
   subst e
   rw[Zaj]
   simp only[Zcn,ZaY,cF]
  | succ k ih=>
   intro i hi
   have hlt:i<left.length:=by omega
   have e1:Zt left (i:Int)=some (lf left (i:Int)):=Zkf ⟨by omega,by rw[toNat_natCast];exact hlt⟩
   have hss:Zgi left (i+1)=(Zgi left i || decide (0<lf left (i:Int))):=Zia i _
   have hn:=ih (i+1) (by omega)
   rw[hss] at hn
   rw[Zaj]
   simp only[Zcn,ZaU hlt,cT,e1,bS,ZA hlt (by omega)]
   by_cases hp:0<lf left (i:Int)
   ·rw[dT hp,Bool.or_true,cT] at hn
    rw[dT hp]
    exact hn
   ·rw[dF hp,Bool.or_false] at hn
    rw[dF hp]
    exact hn
 unfold ZaZ Zbd
 rw[show lp (Zcn left) (2,0)=_ from key left.length 0 (by omega),bS]
 rw[Zdd left (ZdO g dem left) (fun i x=>(x==0)&&decide (lf g.work (i:Int)<lf dem (i:Int))) (fun _ _=>.inl ()) (.inr ()) (fun i x hi hx=>by
  have h1:isN g.work (i:Int):=⟨by omega,by rw[toNat_natCast];omega⟩
  have h2:isN dem (i:Int):=⟨by omega,by rw[toNat_natCast];omega⟩
  simp only[ZdO,ZaU hi,cT,Zn hx,Zkf h1,Zkf h2,bS,ZA hi (by omega)]
  cases x==0<;>cases decide (lf g.work (i:Int)<lf dem (i:Int))<;>rfl) (by simp only[ZdO,ZaY];rfl),Zbi,bS]
 have e:ZhU (fun(i:Nat) (x:Int)=>(x==0)&&decide (lf g.work (i:Int)<lf dem (i:Int))) 0 left=Zmy g dem left left.length:=by
  unfold Zmy
  rw[Bool.eq_iff_iff,ZjX,any_eq_true]
  constructor
  ·rintro ⟨j,x,hx,h⟩
   rw[zero_add] at h
   exact⟨j,List.mem_range.2 (gQ hx).1,by rw[Zmd hx];exact h⟩
  ·rintro ⟨j,hj,h⟩
   have hjl:=List.mem_range.1 hj
   have hx:=gE hjl
   rw[Zmd hx] at h
   exact⟨j,_,hx,by rw[zero_add];exact h⟩
 rw[e]
 cases Zmy g dem left left.length<;>rfl
theorem Zuu {g:Zj}{m:Nat}{left on fs dem:List Int}{ds:List Za}{ts:List Zb}{d:Bool} (h:ZM g=0) (hd:dem.length=g.work.length) (hr:Zfa g dem=true) (I:Zwi g m left on ds ts fs d) (hle:∀n:Int,0<=n->lf left n<=lf (Zap g dem) n):ZgM g ⟨d,dem,Zbd g dem left,⟨⟨on,left⟩,ds,ts,fs⟩⟩=some 0:=by
 obtain⟨hG,hA⟩:=ZT h
 have hw:=hG.wl
 have c:=I.crew.1
 have ll:=c.ll
 have hnl:=ZjL (g:=g) hd
 have hck:Zbf g=some 0:=by rw[Zif g hG.short,h]
 have hri:Zcl g dem=some true:=by rw[ZnV hG (by omega),hr]
 have hst:=ZkG (dem:=dem) (left:=left) hd ll hw
 have hall:∀step:Int->Option (Int⊕(Unit⊕Unit)),(∀(i:Nat) (x:Int),i<(Zap g dem).length->(Zap g dem)[i]? = some x->step (i:Int)=some (bif decide (x<lf left (i:Int)) then .inr (.inl ()) else .inl (w64 ((i:Int)+1))))->step ((Zap g dem).length:Int)=some (.inr (.inr ()))->lp step 0=some (.inr ()):=fun step h1 h2=>
  Zhm (Zap g dem) step (.inr ()) (fun i x hi hx=>by
   have:=hle (i:Int) (by omega)
   rw[Zmd hx] at this
   rw[h1 i x hi hx,dF (by omega),cF,ZA hi (by omega)]) h2
 have hlf:∀i:Nat,i<(Zap g dem).length->Zt left (i:Int)=some (lf left (i:Int)):=fun i hi=>Zkf ⟨by omega,by rw[toNat_natCast];omega⟩
 unfold ZgM
 cases d with
 | true=>
  have I:Zoj g m left on ds ts fs:=I
  simp only[hck,bS,ZmR,cF,hri,cT,ZiJ h I.toGangIn,Zms hd hw]
  rw[hall _ (fun i x hi hx=>by
   simp only[Ze7,ZaU hi,cT,hlf i hi,Zn hx,bS]
   cases decide (x<lf left (i:Int))<;>rfl) (by simp only[Ze7,ZaY];rfl),bS]
  simp only[hst,bS,bne_self_eq_false,cF]
 | false=>
  obtain⟨⟨rfl,rfl,rfl⟩,_,hm⟩:=I
  simp only[hck,bS,ZmR,cF,hri,cT,Zms hd hw,ZlL h c,length_nil,Int.natCast_zero,Int.lt_irrefl,decide_false]
  rw[hall _ (fun i x hi hx=>by
   simp only[ZdY,ZaU hi,cT,hlf i hi,Zn hx,bS]
   cases decide (x<lf left (i:Int))<;>rfl) (by simp only[ZdY,ZaY];rfl),bS]
  simp only[hst,bS,bne_self_eq_false,cF]
theorem Zxc {g:Zj}{m:Nat}{left on fs dem picks:List Int}{ds:List Za}{ts:List Zb}{d:Bool} (h:ZM g=0) (hd:dem.length=g.work.length) (hr:Zfa g dem=true) (hp:picks.length<=100000) (I:Zwi g m left on ds ts fs d) (hle:∀n:Int,0<=n->lf left n<=lf (Zap g dem) n) (h1:Zbd g dem left=1) :
  ∃(row:List Int) (ds':List Za) (ts':List Zb) (fs' done dn:List Int) (n:Nat),
   Zg3 g ⟨d,dem,Zbd g dem left,⟨⟨on,left⟩,ds,ts,fs⟩⟩ picks=some (⟨d,dem,Zbd g dem (ZJ left row),⟨⟨ZH left row,ZJ left row⟩,ds',ts',fs'⟩⟩,⟨row,done,(n:Int)⟩,0)/\ZfS g ⟨d,dem,Zbd g dem left,⟨⟨on,left⟩,ds,ts,fs⟩⟩ picks=some (⟨d,dem,Zbd g dem (ZJ left row),⟨⟨ZH left row,ZJ left row⟩,ds',ts',fs'⟩⟩,⟨row,dn,(n:Int)⟩,0)/\Zfi g.edges left on row/\Zwi g m (ZJ left row) (ZH left row) ds' ts' fs' d:=by
 obtain⟨hG,hA⟩:=ZT h
 have hw:=hG.wl
 have c:=I.crew.1
 have o8:=c.o8
 have hck:=Zuu h hd hr I hle
 have hs1:(Zbd g dem left != 1)=false:=by rw[h1];rfl
 cases d with
 | true=>
  have I:Zoj g m left on ds ts fs:=I
  obtain⟨n,l,on',ds1,ts1,fs1,q1,q2,q3,q4,q5⟩:=ZF5 h hp I.toGangIn
  have z1:=Zzg h I.toGangIn q1
  have G1:Zoj g m left on' ds1 ts1 fs1:=⟨q2,fun i hi=>Int.le_trans (q4.be i) (I.bnd i hi)⟩
  obtain⟨ds2,done,r1,r2,r3⟩:=ZwY h G1 q3
  obtain⟨dn,z2⟩:=ZsQ h q2 r2.crew r1
  have hC:ZhT g ⟨⟨on,left⟩,ds,ts,fs⟩ picks=some (⟨⟨on',left⟩,ds1,ts1,fs1⟩,(n:Int),0):=by
   unfold ZhT
   rw[Zp7 h I.toGangIn,bS,ZmR,cF,Zth hG I.toGangIn,bS]
   dsimp only
   rw[q1,bS]
   rfl
  have hT:ZhL g ⟨⟨on',left⟩,ds1,ts1,fs1⟩=some (⟨⟨ZH left on',ZJ left on'⟩,ds2,ts1,fs1⟩,done,0):=by
   unfold ZhL
   rw[Zp7 h q2,bS,ZmR,cF,Zth hG q2,bS]
   dsimp only
   rw[r1,bS]
  have F:=Zxa I.toGangIn q2 q3 q4
  have hs:=Zl1 (dem:=dem) (left:=ZJ left on') hd (Zgw h c F).ll hw fun x hx=>((Zgw h c F).ok.rng x hx).1
  have hs2:=ZkG (dem:=dem) (left:=ZJ left on') hd (Zgw h c F).ll hw
  refine⟨on',ds2,ts1,fs1,done,dn,n,?_,?_,F,r2⟩
  ·unfold Zg3 ZeZ Ze5 ZeU
   simp only[cT,bS,hC,ZmR,cF,Zdf (show on'.length<=1073741824 by rw[F.len];omega),hT,Zdf (show dem.length<=1073741824 by omega),hs]
  ·unfold ZfS ZkL
   simp only[hck,cT,bS,ZmR,cF,hs1,ZiJ h I.toGangIn,z1,Zar (show on'.length<=1073741824 by rw[F.len];omega),z2,hs2]
 | false=>
  obtain⟨⟨rfl,rfl,rfl⟩,_,hm⟩:=I
  have F:=ZwV c
  have cr:=ZBs h c F
  obtain⟨done,r1,r3⟩:=ZnJ h cr
  obtain⟨dn,t1,t2,t3⟩:=ZtE cr (by have:=cr.ll;omega)
  have hs:=Zl1 (dem:=dem) (left:=ZJ left (Zbh on (ZX g.edges left on))) hd (Zgw h c F).ll hw fun x hx=>((Zgw h c F).ok.rng x hx).1
  have hs2:=ZkG (dem:=dem) (left:=ZJ left (Zbh on (ZX g.edges left on))) hd (Zgw h c F).ll hw
  refine⟨Zbh on (ZX g.edges left on),[],[],[],done,dn,0,?_,?_,F,⟨⟨rfl,rfl,rfl⟩,Zgw h c F,by unfold ZH;rw[length_map,F.len,hm]⟩⟩
  ·unfold Zg3 ZeZ Zfr Zfp
   simp only[cF,bS,Zwk h c,ZmR,Zdf (show(Zbh on (ZX g.edges left on)).length<=1073741824 by rw[F.len];omega),r1,Zdf (show dem.length<=1073741824 by omega),hs]
   rfl
  ·unfold ZfS
   simp only[hck,cT,bS,ZmR,cF,hs1,ZyA hG c,Zar (show(Zbh on (ZX g.edges left on)).length<=1073741824 by rw[F.len];omega),t1,hs2]
   rfl
theorem ZtG {g:Zj}{dem:List Int}{c:Int} (hin:Zpt g dem c) (d:Bool) :
  ∃ds ts fs,ZeI g dem c d=some (⟨d,dem,Zbd g dem (Zap g dem),⟨⟨List.replicate c.toNat (-1),Zap g dem⟩,ds,ts,fs⟩⟩,0)/\ZcZ g dem c d=some (⟨d,dem,Zbd g dem (Zap g dem),⟨⟨List.replicate c.toNat (-1),Zap g dem⟩,ds,ts,fs⟩⟩,0)/\Zwi g c.toNat (Zap g dem) (List.replicate c.toNat (-1)) ds ts fs d/\Zfa g dem=true/\ds.length<=8/\ts.length<=8/\fs.length<=8/\∀x∈ds,x.ring.length=64:=by
 obtain⟨hG,hA⟩:=ZT hin.ck
 have hw:=hG.wl
 have hd:=hin.dl
 have hn:=hin.need
 have c1:=hin.c1
 have c8:=hin.c8
 have hnl:=hn.nl
 obtain⟨ds0,n1,G0⟩:=Zy2 hn
 have hright:Zfa g dem=true:=by
  have h0:=ZvA.2 hin
  unfold Zhv at h0
  rw[show(ZM g==0)=true from beq_iff_eq.2 hin.ck,cT,dT c1,dT c8] at h0
  cases hr:Zfa g dem with
  | true=>rfl
  | false=>rw[hr] at h0;cases h0
 have hs:=Zl1 (dem:=dem) (left:=Zap g dem) hd (ZjL hd) hw fun x hx=>by have:=hn.rng x hx;omega
 have hs2:=ZkG (dem:=dem) (left:=Zap g dem) hd (ZjL hd) hw
 have hdc:ZcX g=some 0:=by rw[ZeC g hG.short,hin.ck]
 have hrc:Zbf g=some 0:=by rw[Zif g hG.short,hin.ck]
 have hri:Zcl g dem=some true:=by rw[ZnV hG (by omega),hright]
 cases d with
 | true=>
  refine⟨ds0,List.replicate c.toNat tk0,List.replicate c.toNat 0,?_,?_,G0,hright,by have:=G0.toGangIn.dl;omega,by rw[length_replicate];omega,by rw[length_replicate];omega,G0.toGangIn.ring⟩
  ·unfold ZeI ZeZ Zgb
   simp only[hdc,bS,ZmR,cF,ZlC hG.short (show dem.length<=70 by omega),hright,cT,dF (show ¬c<1 by omega),dF (show ¬8<c by omega),Zq5 hd hw,n1,Zdf (show dem.length<=1073741824 by omega),hs]
   rfl
  ·unfold ZcZ
   simp only[hrc,bS,ZmR,cF,hri,cT,dF (show ¬c<1 by omega),dF (show ¬8<c by omega),Zar (show dem.length<=1073741824 by omega),Zms hd hw,hs2,ZtV hn n1]
 | false=>
  refine⟨[],[],[],?_,?_,⟨⟨rfl,rfl,rfl⟩,G0.toGangIn.crew,by simp⟩,hright,by simp,by simp,by simp,by simp⟩
  ·have hl:ZgE g (Zap g dem) c=some (.inr (List.replicate c.toNat (-1))):=by rw[ZpJ hG.short,Zjd.2 hn];rfl
   unfold ZeI ZeZ Zgp
   simp only[hdc,bS,ZmR,cF,ZlC hG.short (show dem.length<=70 by omega),hright,cT,dF (show ¬c<1 by omega),dF (show ¬8<c by omega),Zq5 hd hw,hl,Zdf (show dem.length<=1073741824 by omega),hs]
  ·have hl:ZfG g (Zap g dem) c=some (⟨List.replicate c.toNat (-1),Zap g dem⟩,0):=by rw[ZoT hG.short _ _ (by omega),Zjd.2 hn];rfl
   unfold ZcZ
   simp only[hrc,bS,ZmR,cF,hri,cT,dF (show ¬c<1 by omega),dF (show ¬8<c by omega),Zar (show dem.length<=1073741824 by omega),Zms hd hw,hs2,hl]
theorem Znb {g:Zj}{dem:List Int}{c:Int} (hs:Zfc g) (hd:dem.length<=70) (h:Zhv g dem c≠0) (d:Bool):ZcZ g dem c d=some (ZzN,Zhv g dem c):=by
 have hrc:=Zif g hs
 unfold ZcZ
 rw[hrc,bS,bS]
 unfold Zhv at h ⊢
 cases hc:ZM g==0 with
 | false=>
  have:(ZM g != 0)=true:=by rw[bne,hc];rfl
  rw[this,cT,cT,cF]
  cases d<;>rfl
 | true=>
  have h0:ZM g=0:=eq_of_beq hc
  have hG:=(ZT h0).1
  have:(ZM g != 0)=false:=by rw[bne,hc];rfl
  rw[this,cF,cF,cT,ZnV hG hd,bS,bS]
  rw[hc,cT] at h
  cases hr:Zfa g dem with
  | false=>cases d<;>rfl
  | true=>
   rw[hr,Bool.true_and] at h
   simp only[cT,Bool.true_and]
   by_cases h1:c<1
   ·rw[dT h1,dF (show ¬1<=c by omega)]
    cases d<;>rfl
   ·by_cases h8:8<c
    ·rw[dF h1,dT h8,dF (show ¬c<=8 by omega),Bool.and_false]
     cases d<;>rfl
    ·rw[dT (show 1<=c by omega),dT (show c<=8 by omega)] at h
     exact absurd rfl h
theorem ZvC {g:Zj}{dem picks:List Int}{c:Int} (hin:Zpt g dem c) (hs:(Zap g dem).sum<=4096) (hp:picks.length<=100000) (d:Bool) :
  ∃(t:List (List Int)) (left:List Int),ZgD g dem c d picks=some (t,Zbd g dem left,0)/\ZfI g dem c d picks=some (t,Zbd g dem left,0)/\t.length<=100000/\∀r∈t,r.length<=100000:=by
 obtain⟨hG,hA⟩:=ZT hin.ck
 have hw:=hG.wl
 have hn:=hin.need
 have hnl:=hn.nl
 have hrng:∀x∈Zap g dem,0<=x/\x<=1000:=fun x hx=>by have:=hn.rng x hx;omega
 have c1:=hin.c1
 have c8:=hin.c8
 have hE:ZfV g.edges (Zap g dem).length:=by rw[hnl];exact ZgZ hG
 obtain⟨ds0,ts0,fs0,n1,n2,I0,hright,_⟩:=ZtG hin d
 have loop:∀(k:Nat) (picks:List Int) (t:List (List Int)) (on left:List Int) (ds:List Za) (ts:List Zb) (fs:List Int),picks.length<=100000->left.sum<=(k:Int)->t.length+k<=4096->Zwi g c.toNat left on ds ts fs d->Sched g.edges (Zap g dem) c.toNat t left on->(∀r∈t,r.length<=100000) ->
   ∃(t':List (List Int)) (left' on':List Int) (ds':List Za) (ts':List Zb) (fs':List Int),lp (Zeo g) (picks,d,dem,Zbd g dem left,on,left,ds,ts,fs,t)=some (.inr (d,dem,Zbd g dem left',on',left',ds',ts',fs',t'))/\lp (Zdv g) (picks,d,dem,Zbd g dem left,on,left,ds,ts,fs,t)=some (.inr (d,dem,Zbd g dem left',on',left',ds',ts',fs',t'))/\t'.length<=100000/\∀r∈t',r.length<=100000:=by
  intro k
  induction k with
  | zero=>
   intro picks t on left ds ts fs hp hk ht I S hrow
   have hr:=S.crew (fun x hx=>hn.rng x hx) hE
   have hne:Zbd g dem left≠1:=fun h1=>by
    obtain⟨n,h2,h3⟩:=ZpH.1 (Znq.1 h1).2
    have:=Zrx left (fun x hx=>(hr.rng x hx).1) _ (mG (ZjB h2.1 h2.2))
    omega
   refine⟨t,left,on,ds,ts,fs,?_,?_,by omega,hrow⟩
   ·rw[Zaj]
    simp only[Zeo,beq_eq_false_iff_ne.2 hne,cF]
   ·rw[Zaj]
    simp only[Zdv,beq_eq_false_iff_ne.2 hne,cF]
  | succ k ih=>
   intro picks t on left ds ts fs hp hk ht I S hrow
   have hr:=S.crew (fun x hx=>hn.rng x hx) hE
   by_cases h1:Zbd g dem left=1
   ·have hpos:=ZpH.1 (Znq.1 h1).2
    obtain⟨row,ds',ts',fs',done,dn,n,q1,q2,F,I'⟩:=Zxc hin.ck hin.dl hright hp I (fun n h0=>S.left_le (fun x hx=>hn.rng x hx) hE h0) h1
    have hll:=I.crew.1.ll
    have hb:=ZpV hG hA hll hpos hr F (by rw[I.crew.2];omega)
    have hsub:=ZpN row left (F.nodes hr)
    have hrl:row.length<=8:=by rw[F.len];exact I.crew.1.o8
    have hmin:(0:Int)<=(bif decide ((picks.length:Int)<(n:Int)) then (picks.length:Int) else (n:Int))/\(bif decide ((picks.length:Int)<(n:Int)) then (picks.length:Int) else (n:Int)).toNat<=picks.length:=by
     by_cases hlt:(picks.length:Int)<(n:Int)
     ·rw[dT hlt,cT];omega
     ·rw[dF hlt,cF];omega
    obtain⟨t',left',on',ds2,ts2,fs2,e1,e2,e3,e4⟩:=ih (picks.drop (bif decide ((picks.length:Int)<(n:Int)) then (picks.length:Int) else (n:Int)).toNat) (t++[row]) (ZH left row) (ZJ left row) ds' ts' fs' (by rw[length_drop];omega) (by omega)
     (by rw[lA,length_singleton];omega) I' (.snoc S hpos F) (fun r hr=>by
      rcases List.mem_append.1 hr with hr | hr
      ·exact hrow r hr
      ·rw[List.mem_singleton.1 hr];omega)
    refine⟨t',left',on',ds2,ts2,fs2,?_,?_,e3,e4⟩
    ·rw[Zaj]
     simp only[Zeo,beq_iff_eq.2 h1,cT,q1,bS,ZmR,cF,dT hmin.1,Nat.ble_eq_true_of_le hmin.2,Zar (show t.length+1<=1073741824 by omega)]
     exact e1
    ·rw[Zaj]
     simp only[Zdv,beq_iff_eq.2 h1,cT,q2,bS,ZmR,cF,dT hmin.1,Nat.ble_eq_true_of_le hmin.2,Zar (show t.length+1<=1073741824 by omega)]
     exact e2
   ·refine⟨t,left,on,ds,ts,fs,?_,?_,by omega,hrow⟩
    ·rw[Zaj]
     simp only[Zeo,beq_eq_false_iff_ne.2 h1,cF]
    ·rw[Zaj]
     simp only[Zdv,beq_eq_false_iff_ne.2 h1,cF]
 have hs0:=Zwv (Zap g dem) hrng
 obtain⟨t',left',on',ds',ts',fs',e1,e2,e3,e4⟩:=loop (Zap g dem).sum.toNat picks [] (List.replicate c.toNat (-1)) (Zap g dem) ds0 ts0 fs0 hp (by omega) (by simp;omega) I0 .nil (fun r hr=>by cases hr)
 refine⟨t',left',?_,?_,e3,e4⟩
 ·have hsum:=Zpr hrng (by omega) (Zfj (⟨d,dem,Zbd g dem (Zap g dem),⟨⟨List.replicate c.toNat (-1),Zap g dem⟩,ds0,ts0,fs0⟩⟩,0)) (fun i s x hi hx=>by simp only[Zfj,ZaU hi,cT,Zn hx,bS]) (fun s=>by simp only[Zfj,ZaY];rfl)
  unfold ZgD
  rw[n1,bS]
  simp only[ZmR,cF]
  rw[hsum,bS,dF (show ¬4096<(Zap g dem).sum by omega),cF,e1,bS]
 ·have hsum:=Zpr hrng (by omega) (ZeD (⟨d,dem,Zbd g dem (Zap g dem),⟨⟨List.replicate c.toNat (-1),Zap g dem⟩,ds0,ts0,fs0⟩⟩,0)) (fun i s x hi hx=>by simp only[ZeD,ZaU hi,cT,Zn hx,bS]) (fun s=>by simp only[ZeD,ZaY];rfl)
  unfold ZfI
  rw[n2,bS]
  simp only[ZmR,cF]
  rw[hsum,bS,dF (show ¬4096<(Zap g dem).sum by omega),cF,e2,bS]
theorem ZsI {g:Zj}{dem picks:List Int}{c:Int} (hs:Zfc g) (hd:dem.length<=70) (h:Zhv g dem c≠0) (d:Bool):ZfI g dem c d picks=some ([],0,Zhv g dem c):=by
 unfold ZfI
 rw[Znb hs hd h d,bS]
 simp only[show(Zhv g dem c != 0)=true from bne_iff_ne.2 h,cT]
theorem Zq2 {d:Bool}{dem on left fs:List Int}{st:Int}{ds:List Za}{ts:List Zb} (hd0:dem.length<=100000) (hg:Ze1 ⟨⟨on,left⟩,ds,ts,fs⟩ ⟨⟨on,left⟩,ds,ts,fs⟩=some true):ZhV ⟨d,dem,st,⟨⟨on,left⟩,ds,ts,fs⟩⟩ ⟨d,dem,st,⟨⟨on,left⟩,ds,ts,fs⟩⟩=some true:=by
 unfold ZhV
 cases d<;>simp only[cT,cF,Zh5 dem hd0,bS,beq_self_eq_true,hg]
end Go.Proofs.YtgcfmiajkbbmeaaGreat
