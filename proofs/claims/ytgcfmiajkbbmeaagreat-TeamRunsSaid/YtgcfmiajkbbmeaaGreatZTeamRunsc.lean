/- TeamRuns: part 3 of 6 of the proof. -/
import Derived.Test.YtgcfmiajkbbmeaaGreatZTeamRunsb
import Derived.Test.YtgcfmiajkbbmeaaGreatProg
import Derived.WalkKit
import Derived.Shelf.Sort.Plain
import Derived.Shelf.Slices.In.SortNone
import Derived.KernelRfl
import Derived.ChangeArms
import Derived.Deep.Slices
import Derived.ChangeOld
import Derived.WideShapes
import Derived.FnData
import Derived.MakeChecks
import Derived.LaidMore
import Derived.OpenShut
set_option maxRecDepth 100000
set_option maxHeartbeats 40000000
set_option linter.unusedVariables false
set_option linter.unusedSimpArgs false
namespace Go.Proofs.YtgcfmiajkbbmeaaGreatE
open Go
open Go.IntKind (u64 i64 u32 i32 u8)
open Nat (lt_of_lt_of_le le_trans lt_or_ge zero_le add_zero zero_mul zero_add ble_eq beq_refl)
open List (length_nil length_take length_drop length_map length_set length_cons map_cons length_singleton mem_cons append_nil any_eq_true)
section
def Ztm (P:Program):List ResultVar->List (Nat×Option (Nat×Bool))->Bool
 | [],[]=>true
 | .tmp t :: rs,(i,none) :: qs=>Nat.beq t i&&Ztm P rs qs
 | .cell a t :: rs,(i,some (n,ag)) :: qs=>Nat.beq a i&&(Zgq (Zhz P t) (fun b=>b==ag)&&(Zgq (Zfb P t) (fun m=>Nat.beq m n)&&Ztm P rs qs))
 | _,_=>false
def Zt4:FnI->Bool
 | ⟨1,.seq (.ops [⟨some 2,.append 1 (.c (.nilsl 1)) (.t 0),none,[],0⟩]) .ret,[(2,none)]⟩=>true
 | _=>false
def ZBL (P:Program) (G:Z1) (N:Nat) (os:Array Oper):Bool:=
 match os.toList with
 | [o,o2]=>ZnY P G N os o (oB 3 (.mov (.t 0)))&&(Zxw N o2.dst (some 4)&&(ZqK os o2.guard none&&(match o2.op with | .binOp .eql t (.tmp 3) (.const (.slice none _ _)) _=>ZgL P t | _=>false)))
 | _=>false
def ZwS (P:Program) (G:Z1) (N:Nat):Code->Bool
 | .seq (.region _ os0 false) (.seq (.seq (.region _ os1 false) (.cond (.tmp 4) (.seq (.region _ os2 false) .ret) .skip)) (.seq (.region _ os3 false) .ret))=>
  ZlN P G N os0 os0.toList [oB 2 (.mov (.c (.nilsl 1)))]&&(ZBL P G N os1&&(ZlN P G N os2 os2.toList [oB 2 (.mov (.c (.nilsl 1)))] &&
   ZlN P G N os3 os3.toList [oB 5 (.bslice 1 [.int .i64 0] 0 []),oB 6 (.mov (.t 0)),oB 7 (.append 1 (.t 5) (.t 6)),oB 2 (.mov (.t 7))]))
 | _=>false
def Zup (P:Program) (G:Z1) (okD:Nat->Array Oper->List Op1->Bool) (f:Nat) (fn:FnI):Bool:=
 match P.funcs[f]? with
 | some F=>Zfh P f&&(match F.body with | some c=>(okC P G F.ntmps (okD F.ntmps) fn.body c || (Zt4 fn&&ZwS P G F.ntmps c))&&Ztm P F.results.toList fn.res | none=>false)
 | none=>false
section
variable {P:Program} {G:Z1} {R:RP} {w:World} {e:Env} {a:Act} {H1:Zi}
theorem ZrW:∀(vs:List V) (i t:Nat),ZaA i vs t=if i<=t then (vs[t-i]?).getD .bad else .bad
 | [],i,t=>by simp[ZaA,env0]
 | v :: vs,i,t=>by
  simp only[ZaA,Env.set]
  cases hb:Nat.beq i t with
  | true=>
   obtain rfl:=nQ hb
   simp
  | false=>
   have hne:i≠t:=fun h=>by subst h;rw[beq_refl] at hb;cases hb
   simp only[cF]
   rw[ZrW vs (i+1) t]
   by_cases h:i<=t
   ·rw[if_pos (by omega),if_pos h]
    have:t-i=(t-(i+1))+1:=by omega
    rw[this,List.getElem?_cons_succ]
   ·rw[if_neg (by omega),if_neg h]
theorem ZD0 {args:List V}{us:List Value}{n:Nat} (h:ZY R w args us):Zgj R w (ZaA 0 args) { tmps:=us.toArray++Array.replicate n undef,defers:=[] }:=by
 intro t
 rw[ZrW,if_pos (zero_le _),Nat.sub_zero]
 cases hv:args[t]? with
 | none=>exact trivial
 | some v=>
  obtain⟨u,h1,h2⟩:=ZeB args us t v h hv
  have hlt:=(gQ h1).1
  have:(us.toArray++Array.replicate n undef).getD t undef=u:=by
   rw[Array.getD_eq_getD_getElem?,Array.getElem?_append_left (by simpa using hlt)]
   simp[h1]
  show Z5 R w ((some v).getD .bad) _
  rw[this];exact h2
def Zpx (tmps:Array Value):ResultVar->Sem Value
 | .tmp t=>pure (tmps.getD t undef)
 | .cell a t=>do loadVar t (<- asAddr (tmps.getD a undef))
theorem Zwo {t:TypeId}{u0 u:Value} (h:(Instr.loadAt t u0).run P w = .ok u w):(do loadVar t (<- asAddr u0):Sem Value).run P w = .ok u w:=by
 cases u0<;>try (simp[Instr.loadAt,Instr.sureAddr] at h;done)
 rename_i ad
 cases ad with
 | none=>simp[Instr.loadAt,Instr.sureAddr] at h
 | some ad=>simpa [Instr.loadAt,Instr.sureAddr,asAddr] using h
theorem Zur (pre:Pre G R w e a H1):∀(rs:List ResultVar) (qs:List (Nat×Option (Nat×Bool))) (l:List V),Ztm P rs qs=true->ZiS e H1 qs=some l->∃us,(rs.mapM (Zpx a.tmps)).run P w = .ok us w/\ZY R w l us
 | [],[],l,_,h=>by
  simp only[ZiS,sJ] at h
  subst h
  exact⟨[],rfl,rfl⟩
 | [],_ :: _,l,hk,_=>by cases hk
 | .tmp t :: rs,[],l,hk,_=>by cases hk
 | .cell b t :: rs,[],l,hk,_=>by cases hk
 | .tmp t :: rs,(i,some q) :: qs,l,hk,_=>by cases hk
 | .cell b t :: rs,(i,none) :: qs,l,hk,_=>by cases hk
 | .tmp t :: rs,(i,none) :: qs,l,hk,h=>by
  simp only[Ztm,aT] at hk
  obtain rfl:=nQ hk.1
  simp only[ZiS] at h
  cases hr:ZiS e H1 qs with
  | none=>rw[hr] at h;cases h
  | some l'=>
   rw[hr] at h
   simp only[sJ] at h
   subst h
   obtain⟨us,h1,h2⟩:=Zur pre rs qs l' hk.2 hr
   refine⟨a.tmps.getD t undef :: us,?_,_,us,rfl,pre.env t,h2⟩
   rw[List.mapM_cons]
   simp[Zpx,h1]
 | .cell b t :: rs,(i,some (n,ag)) :: qs,l,hk,h=>by
  simp only[Ztm,aT] at hk
  obtain⟨k1,k2,k3,k4⟩:=hk
  obtain rfl:=nQ k1
  obtain⟨b',h1,h2⟩:=Z3 k2
  obtain⟨m,h3,h4⟩:=Z3 k3
  obtain rfl:=nQ h4
  obtain rfl:b'=ag:=by simpa using h2
  simp only[ZiS] at h
  cases hl:Zb5 H1 m b' (e b) with
  | none=>rw[hl] at h;cases h
  | some v=>
   cases hr:ZiS e H1 qs with
   | none=>rw[hl,hr] at h;cases h
   | some l'=>
    rw[hl,hr] at h
    simp only[sJ] at h
    subst h
    obtain⟨u,f1,f2⟩:=Zun pre h1 h3 (pre.env b) hl
    obtain⟨us,g1,g2⟩:=Zur pre rs qs l' k4 hr
    refine⟨u :: us,?_,u,us,rfl,f2,g2⟩
    have:=Zwo f1
    rw[List.mapM_cons]
    simp only[Zpx,Sem.run_bind,g1]
    simp only[Sem.run_bind] at this
    rw[this]
    simp[g1]
theorem ZuO {F:Func}{us:List Value} (h:(F.results.toList.mapM (Zpx a.tmps)).run P w = .ok us w):(results F a.tmps).run P w = .ok (if h:us.toArray.size=1 then us.toArray[0] else .tuple us.toArray) w:=by
 have hE:results F a.tmps=(F.results.mapM (Zpx a.tmps) >>= fun vs=>pure (if h:vs.size=1 then vs[0] else .tuple vs)):=by
  unfold results
  congr 2
 have hm:(F.results.mapM (Zpx a.tmps)).run P w = .ok us.toArray w:=by
  rw[Array.mapM_eq_mapM_toList]
  simp[h]
 rw[hE,Sem.run_bind,hm]
 rfl
theorem ZyJ {l:List V}{us:List Value} (h:ZY R w l us):Z5 R w (Zfz l) (if h:us.toArray.size=1 then us.toArray[0] else .tuple us.toArray):=by
 have hl:=ZcV _ _ h
 by_cases h1:us.length=1
 ·obtain⟨u,rfl⟩:=List.length_eq_one_iff.1 h1
  obtain⟨v,rfl⟩:=List.length_eq_one_iff.1 (hl ▸ h1:l.length=1)
  obtain⟨u',us',e1,e2,e3⟩:=h
  cases e1
  simpa [Zfz] using e2
 ·rw[dif_neg (by simpa using h1)]
  have:Zfz l=Zu0 l:=by
   match l,hl with
   | [],_=>rfl
   | [v],hl=>simp at hl;omega
   | _ :: _ :: _,_=>rfl
  rw[this]
  exact ZCB h
end
def Zwr (id:Nat):FnI:=⟨2,.ops [⟨some 2,.spec id [.t 0,.t 1],none,[],0⟩],[(2,none)]⟩
def ZDZ (P:Program) (f:Nat) (fn:FnI):Prop:=
 Zfh P f=true/\∃id,fn=Zwr id/\∀(l:List D) (r:D) (R:RP) (w:World) (us:List Value),Zm9 id l=some r->R.OK w->R.H=[]->ZY R w (ZbM l) us ->
  Calls P f us.toArray w fun e w'=>∃u,e = .returned u/\R.den w' r u/\Ext R w R w'
def Zwm:FnI:=⟨1,.seq (.ops [⟨none,.sortI (.t 0),none,[],0⟩]) .ret,[]⟩
structure ZuG (P:Program) (f:Nat):Prop where
 nil:∀(p:Option Addr) (cap:Nat) (w:World),Calls P f #[.slice p 0 cap] w fun e w'=>e = .returned (.tuple #[])/\w'=w
 all:∀(zs:List Int) (c:Nat) (cs:Array Value) (el:TypeId) (cap:Nat) (w:World),zs.length<=lim->w.heap[c]? = some (.cells cs el (0,0))->(∀(j:Nat) x,zs[j]? = some x->cs[j]? = some (.int .i64 x)) ->
  Calls P f #[.slice (some ⟨c,0,none⟩) zs.length cap] w fun e w'=>e = .returned (.tuple #[])/\∃(w1:World) (cs1:Array Value),w1.heap[c]? = some (.cells cs1 el (0,0))/\cs1.size=cs.size /\
   (∀(j:Nat) x,(sortI zs)[j]? = some x->cs1[j]? = some (.int .i64 x))/\(∀c',c'≠c->w1.heap[c']? = w.heap[c']?)/\w1.heap.size=w.heap.size/\w1.os=w.os/\w1.tape=w.tape/\w1.output=w.output /\
   (∀b,b<w1.heap.size->w'.heap[b]? = w1.heap[b]?)/\w1.heap.size<=w'.heap.size/\w'.os=w1.os/\w'.tape=w1.tape/\w'.output=w1.output
def ZBo:FnI:=⟨1,.seq (.ops [⟨some 2,.bin .eql (.t 0) (.c (.d (.int .u64 0))),none,[],0⟩,⟨some 3,.mov (.c .bad),none,[],0⟩]) .ret,[(3,none)]⟩
def ZBh (P:Program) (G:Z1) (f:Nat):Prop:=∀(n:Int) (R:RP) (w:World),R.OK w->GOK G R w->Calls P f #[.int .u64 n] w fun e w'=>∃u,e = .returned u/\w'=w
def Zr1:FnI:=⟨1,.seq (.ops [⟨some 1,.chNew (.t 0),none,[],0⟩]) .ret,[(1,none)]⟩
def Zq4:FnI:=⟨2,.seq (.ops [⟨some 2,.chTake (.t 0) (.t 1),none,[],0⟩,⟨some 3,.extract (.t 2) 0,none,[],0⟩,⟨some 4,.extract (.t 2) 1,none,[],0⟩]) .ret,[(3,none),(4,none)]⟩
def Zqe (xs:List Int):Array Value:=(xs.map fun n=>Value.int .i64 n).toArray
structure ZD5 (w1 w':World):Prop where
 same:∀b,b<w1.heap.size->w'.heap[b]? = w1.heap[b]?
 grow:w1.heap.size<=w'.heap.size
 os:w'.os=w1.os
 tape:w'.tape=w1.tape
 output:w'.output=w1.output
def ZzK (B:Nat) (w:World) (xs:List Int) (u:Value):Prop:=
 ∃a cap,u = .slice a xs.length cap/\xs.length<=cap/\(xs≠[]->∃b off,a=some ⟨b,off,none⟩/\B<=b/\b<w.heap.size/\∀(j:Nat) x,xs[j]? = some x->w.cell? ⟨b,off+j,none⟩=some (.int .i64 x))
def ZC5 (P:Program) (f:Nat):Prop:=
 ∀(n:Int) (w:World),0<=n->n<=1000->Calls P f #[.int .i64 n] w fun e w'=>∃cap s r,e = .returned (.chan (some w.heap.size))/\ZD5 (w.alloc (.chan cap (Zqe (Zhl n)) false s r false)) w'
def ZDx (P:Program) (f:Nat):Prop:=
 ∀(n:Int) (xs:List Int) (c cap s r:Nat) (w:World),0<=n->n<=1000->w.heap[c]? = some (.chan cap (Zqe xs) false s r false)->Calls P f #[.chan (some c),.int .i64 n] w fun e w'=>
  ∃(w1:World) (r':Nat) (u:Value),e = .returned (.tuple #[u,.bool (Nat.ble n.toNat xs.length)])/\w1.heap[c]? = some (.chan cap (Zqe (bif Nat.ble n.toNat xs.length then xs.drop n.toNat else [])) false s r' false)/\(∀c',c'≠c->w1.heap[c']? = w.heap[c']?)/\w1.heap.size=w.heap.size/\w1.os=w.os/\w1.tape=w.tape/\w1.output=w.output/\ZD5 w1 w' /\
   ZzK w.heap.size w' (bif Nat.ble n.toNat xs.length then xs.take n.toNat else []) u
def Zpl (P:Program) (G:Z1) (f:Nat) (fn:FnI):Prop:=
 ZDZ P f fn∨(Zfh P f=true/\fn=Zwm/\ZuG P f)∨(Zfh P f=true/\fn=ZBo/\ZBh P G f)∨(Zfh P f=true/\fn=Zr1/\ZC5 P f)∨(Zfh P f=true/\fn=Zq4/\ZDx P f)
theorem ZvV (a:Int) (r:List D):Zhq (.int .i64 a :: r)=(match Zhq r with | some l=>some (a :: l) | none=>none):=rfl
theorem Zyz:∀(xs:List D) (zs:List Int),Zhq xs=some zs->xs=zs.map (fun n=>D.int .i64 n):=by
 intro xs
 induction xs with
 | nil=>intro zs h;cases h;rfl
 | cons x xs ih=>
  intro zs h
  cases x<;>try (cases h;done)
  rename_i k a
  cases k<;>try (cases h;done)
  rw[ZvV] at h
  cases hr:Zhq xs with
  | none=>rw[hr] at h;cases h
  | some l=>rw[hr] at h;cases h;rw[map_cons,<- ih l hr]
theorem ZvL (x:Int):∀l:List Int,(ZtW x l).length=l.length+1
 | []=>rfl
 | y :: r=>by
  unfold ZtW
  cases decide (x<=y) with
  | true=>rfl
  | false=>simp only[cF,length_cons,ZvL x r]
theorem Zo7:∀l:List Int,(sortI l).length=l.length
 | []=>rfl
 | x :: r=>by unfold sortI;rw[ZvL,Zo7 r,length_cons]
section
variable {P:Program} {R:RP} {w w':World}
theorem Ext.more (h:∀b,b<w.heap.size->w'.heap[b]? = w.heap[b]?) (hs:w.heap.size<=w'.heap.size) (h1:w'.os=w.os) (h2:w'.tape=w.tape) (h3:w'.output=w.output):Ext R w R w' where
 m:=fun i x hx=>hx
 h:=fun i x blk _ hb hd=>⟨blk,hb,Blk.like_refl hd⟩
 b1:=rfl
 b0:=rfl
 same:=fun b hb _=>h b hb
 row:=fun b cs el fr hb=>⟨cs,el,fr,by rw[h b (Array.getElem?_eq_some_iff.1 hb).1];exact hb,rfl⟩
 grow:=hs
 liv:=fun c _ h=>h
 os:=h1
 tape:=h2
 output:=h3
theorem RP.OK.more (ok:R.OK w) (h:∀b,b<w.heap.size->w'.heap[b]? = w.heap[b]?) (x:Ext R w R w'):R.OK w' where
 b01:=ok.b01
 al:=ok.al
 inj:=ok.inj
 lt:=fun i c h=>lt_of_lt_of_le (ok.lt i c h) x.grow
 blk:=fun i m blk hb hm=>x.blkOK ok.b01 (fun c hc=>h _ (ok.lt i c (by rw[hm,hc]))) (ok.blk i m blk hb hm)
 nb:=ok.nb
 bl:=fun c h=>lt_of_lt_of_le (ok.bl c h) x.grow
theorem Zy5 {f:Nat} (hS:ZuG P f) (ok:R.OK w) (hM:∀i,R.H.length<=i->R.M i=none) {b:Nat}{xs:List D}{zs:List Int}{u0:Value} (hb:nth R.H b=some (.arr 1 xs)) (hz:Zhq xs=some zs) (hl:zs.length<=lim) (hd:Z5 R w (.sl b 1) u0) :
  Calls P f #[u0] w fun e w'=>e = .returned (.tuple #[])/\∃R',Ext R w R' w'/\R'.OK w'/\R'.H=ZbL R.H b (.arr 1 ((sortI zs).map fun n=>.int .i64 n))/\(∀i,R.H.length<=i->R'.M i=none):=by
 have hxs:=Zyz _ _ hz
 have hlen:xs.length=zs.length:=by rw[hxs,length_map]
 obtain⟨_,m,hm,hs⟩:=hd
 obtain⟨_,a,cap,rfl,_,h2⟩:=hs xs hb
 rw[ZI] at hb
 rcases h2 with⟨_,h0⟩ | ⟨c,cs,el,fr,rfl,rfl,hc,hsz⟩
 ·have hx0:xs=[]:=List.eq_nil_of_length_eq_zero h0.symm
  subst hx0
  have hz0:zs=[]:=List.eq_nil_of_length_eq_zero hlen.symm
  subst hz0
  refine(hS.nil a cap w).mono ?_
  rintro e w' ⟨rfl,rfl⟩
  refine⟨rfl,R,Ext.refl R _,ok,?_,hM⟩
  show R.H=ZbL R.H b (.arr 1 [])
  rw[Zah]
  apply List.ext_getElem?
  intro j
  rw[List.getElem?_set]
  split
  ·rename_i hbj
   subst hbj
   rw[if_pos (gQ hb).1,hb]
  ·rfl
 ·obtain⟨k0,kesc,k1⟩:=ok.blk b _ _ hb hm
  rcases k1 with⟨k1,_⟩ | ⟨c',cs2,el2,k1,k2,k3,k4⟩
  ·cases k1
  cases k1
  rw[hc] at k2
  cases k2
  have hcs:∀(j:Nat) x,zs[j]? = some x->cs[j]? = some (.int .i64 x):=fun j x hj=>by
   obtain⟨u,q1,q2,q3⟩:=k4 j (.int .i64 x) (by rw[hxs,List.getElem?_map,hj];rfl)
   have hu:u = .int .i64 x:=q1
   subst hu
   have:=q3 0 (.int .i64 x) rfl
   simpa using this
  rw[hlen,zero_mul]
  refine(hS.all zs c cs el cap w hl hc hcs).mono ?_
  rintro e w' ⟨rfl,w1,cs1,g1,g2,g3,g4,g5,g6,g7,g8,m1,m2,m3,m4,m5⟩
  refine⟨rfl,?_⟩
  have hll:((sortI zs).map fun n=>D.int .i64 n).length=xs.length:=by rw[length_map,Zo7,hlen]
  have hp:ZK R.H ((b,Blk.arr 1 ((sortI zs).map fun n=>D.int .i64 n)) :: Zeg []) R.H.length [] (ZbL R.H b (.arr 1 ((sortI zs).map fun n=>.int .i64 n))):=by
   have:=ZfA R.H [(b,Blk.arr 1 ((sortI zs).map fun n=>D.int .i64 n))] []
   simpa [Zbc,Zeg] using this
  obtain⟨R',x,ok',hH,_,hM'⟩:=Post.write (ks:=[]) (v:=.bad) (u:=undef) ok hb hm (blk:=.arr 1 ((sortI zs).map fun n=>D.int .i64 n)) (old:=.arr 1 xs) ⟨rfl,hll⟩ hc g1 g2 g4 g5 g6 g7 g8 (by simp) hp (fun R' hx' hL hlv hb0=>by
   refine⟨by omega,fun x hx=>?_,.inr ⟨c,cs1,el,rfl,g1,?_,fun j x hj=>?_⟩⟩
   ·obtain⟨n,_,rfl⟩:=List.mem_map.1 hx;rfl
   ·rw[hll,g2];exact k3
   ·rw[List.getElem?_map] at hj
    cases hq:(sortI zs)[j]? with
    | none=>rw[hq] at hj;cases hj
    | some n=>
     rw[hq] at hj
     cases hj
     refine⟨.int .i64 n,rfl,rfl,fun k v hk=>?_⟩
     have h00:k=0:=by
      have:=(Array.getElem?_eq_some_iff.1 hk).1
      simp[Value.cells] at this
      omega
     subst h00
     cases hk
     rw[Nat.mul_one]
     exact g3 j n hq) (fun R' _ _ _=>trivial)
  have xm:Ext R' w1 R' w':=Ext.more m1 m2 m3 m4 m5
  exact⟨R',x.trans xm,ok'.more m1 xm,hH,fun i hi=>hM' i (hM i hi) (by simp)⟩
end
section
variable {P:Program} {G:Z1} {cf:Zac} {R:RP} {w w1 w':World} {L:List Nat} {v:V} {H':Zi}
theorem Zyv {n:Int}{cap s r:Nat} (hcf:ZeF P G cf) (ok:R.OK w) (g:GOK G R w) (hM:∀i,R.H.length<=i->R.M i=none) (hm:ZD5 (w.alloc (.chan cap (Zqe (Zhl n)) false s r false)) w') (hex:extract R.H.length [.ch R.H.length] (R.H++[.ch (Zhl n)])=some (L,[v],H')) :
  ∃u,Ending.returned (.chan (some w.heap.size)) = .returned u/\Ret R w v H' u w':=by
 have hp:ZK R.H [] R.H.length [.ch (Zhl n)] (R.H++[.ch (Zhl n)]):=by
  have:=ZfA R.H [] [.ch (Zhl n)]
  simpa [Zbc] using this
 obtain⟨R1,x,ok1,hH1,hv,hM1⟩:=Post.new (m:=some w.heap.size) (v:=.ch R.H.length) (u:=.chan (some w.heap.size)) (.chan cap (Zqe (Zhl n)) false s r false) ok hp (hM _ (Nat.le_refl _)) (.inr rfl) fun R' hx hM hH=>⟨⟨_,rfl,cap,s,r,Zkl w _⟩,fun _=>⟨⟨_,rfl⟩,_,hM,fun es _=>⟨_,rfl,rfl⟩⟩⟩
 have xm:Ext R1 (w.alloc (.chan cap (Zqe (Zhl n)) false s r false)) R1 w':=Ext.more hm.same hm.grow hm.os hm.tape hm.output
 have fc:ZhA P G cf R w:=⟨hcf,ok,g,hM⟩
 obtain⟨R2,x2,ok2,hH2,hM2,hv2,hl2⟩:=ZfM fc (x.trans xm) (ok1.more hm.same xm) hH1 (fun i hi=>by
  rw[lA,length_singleton] at hi
  exact hM1 i (hM i (by omega)) (by simp;omega)) (by simp) hex
 obtain⟨u2,us2,e2,e3,_⟩:=hv2 [.chan (some w.heap.size)] ⟨_,[],rfl,xm.denV ok1.b01 _ _ hv,rfl⟩
 cases e2
 exact⟨_,rfl,R2,x2,ok2,hH2,e3,hM2,hl2⟩
theorem Zqc {A1 A0 AL:Nat->Prop}{w:World}{b:Nat}:∀(xs:List Int) (off:Nat),(∀(j:Nat) x,xs[j]? = some x->w.cell? ⟨b,off+j,none⟩=some (.int .i64 x))->ZeG A1 A0 AL w b 1 off (xs.map fun n=>.int .i64 n)
 | [],_,_=>trivial
 | x :: xs,off,h=>⟨⟨.int .i64 x,rfl,rfl,fun k v hk=>by
   have h00:k=0:=by
    have:=(Array.getElem?_eq_some_iff.1 hk).1
    simp[Value.cells] at this
    omega
   subst h00
   cases hk
   exact h 0 x rfl⟩,Zqc xs (off+1) fun j y hj=>by
   have:=h (j+1) y hj
   rwa [show off+1+j=off+(j+1) by omega]⟩
theorem ZyE {b c cap s r r':Nat}{xs ys zs:List Int}{t:Bool}{u:Value} (hcf:ZeF P G cf) (ok:R.OK w) (g:GOK G R w) (hM:∀i,R.H.length<=i->R.M i=none) (hb:nth R.H b=some (.ch xs)) (hmc:R.M b=some (some c)) (hch:w.heap[c]? = some (.chan cap (Zqe xs) false s r false))
  (g1:w1.heap[c]? = some (.chan cap (Zqe zs) false s r' false)) (g4:∀c',c'≠c->w1.heap[c']? = w.heap[c']?) (g5:w1.heap.size=w.heap.size) (g6:w1.os=w.os) (g7:w1.tape=w.tape) (g8:w1.output=w.output) (hm:ZD5 w1 w') (hh:ZzK w.heap.size w' ys u)
  (hex:extract R.H.length [.d (.tup [.list true (ys.map fun n=>.int .i64 n),.bool t])] (ZbL R.H b (.ch zs))=some (L,[v],H')) :
  ∃u',Ending.returned (.tuple #[u,.bool t]) = .returned u'/\Ret R w v H' u' w':=by
 rw[ZI] at hb
 have hp:ZK R.H ((b,Blk.ch zs) :: Zeg []) R.H.length [] (ZbL R.H b (.ch zs)):=by
  have:=ZfA R.H [(b,Blk.ch zs)] []
  simpa [Zbc,Zeg] using this
 obtain⟨R1,x,ok1,hH1,_,hM1⟩:=Post.writeO (ks:=[]) (v:=.bad) (u:=undef) ok hb hmc (blk:=.ch zs) (old:=.ch xs) trivial (fun cs el fr h=>by rw[hch] at h;cases h) g4 g5 g6 g7 g8 (by simp) hp (fun R' _ _ _ _=>⟨c,rfl,cap,s,r',g1⟩) (fun R' _ _ _=>trivial)
 have xm:Ext R1 w1 R1 w':=Ext.more hm.same hm.grow hm.os hm.tape hm.output
 have fc:ZhA P G cf R w:=⟨hcf,ok,g,hM⟩
 have hlen:(ZbL R.H b (.ch zs)).length=R.H.length:=by rw[Zah,length_set]
 obtain⟨R2,x2,ok2,hH2,hM2,hv2,hl2⟩:=ZfM fc (x.trans xm) (ok1.more hm.same xm) hH1 (fun i hi=>by
  rw[hlen] at hi
  exact hM1 i (hM i hi) (by simp)) (by rw[hlen];exact Nat.le_refl _) hex
 have hl:R1.den w' (.list true (ys.map fun n=>.int .i64 n)) u:=by
  obtain⟨a,cp,rfl,h1,h2⟩:=hh
  refine⟨a,ys.length,cp,rfl,by simp,h1,fun y hy=>?_,fun hne=>?_⟩
  ·obtain⟨n,_,rfl⟩:=List.mem_map.1 hy;rfl
  ·obtain⟨b',off,rfl,q1,q2,q3⟩:=h2 fun e=>hne (by rw[e];rfl)
   refine⟨b',off,1,rfl,⟨fun hl=>?_,fun hb1=>?_⟩,q2,Zqc ys off q3⟩
   ·obtain⟨i,_,hi⟩:=hl
    have:=ok1.lt i b' hi
    omega
   ·have:=ok1.bl b' hb1
    omega
 obtain⟨u2,us2,e2,e3,_⟩:=hv2 [.tuple #[u,.bool t]] ⟨_,[],rfl,⟨[u,.bool t],rfl,u,[.bool t],rfl,hl,.bool t,[],rfl,rfl,rfl⟩,rfl⟩
 cases e2
 exact⟨_,rfl,R2,x2,ok2,hH2,e3,hM2,hl2⟩
end
theorem ZAJ {Γ:Ctx}{cf:Zac}{It:(List V->Zi->Option Lp)->List V->Zi->Option (Ex×List V×Zi)}{f:Nat}{args:List V}{H H':Zi}{v:V} (hc:Γ.code f=some Zwm) (h:ZeX Γ cf It f args H=some (v,H')) :
  ∃b xs zs L,args=[.sl b 1]/\nth H b=some (.arr 1 xs)/\Zhq xs=some zs/\zs.length<=lim/\extract H.length [.d (.tup [])] (ZbL H b (.arr 1 ((sortI zs).map fun n=>.int .i64 n)))=some (L,[v],H'):=by
 unfold ZeX at h
 rw[hc] at h
 dsimp only[Zwm] at h
 match args,h with
 | [],h=>cases h
 | _ :: _ :: _,h=>cases h
 | [x],h=>
  simp only[length_cons,length_nil,Nat.beq,cT,ZG,Zd7,Zb2,opE] at h
  have hv:Opd.val (ZaA 0 [x]) (.t 0)=x:=rfl
  rw[hv] at h
  cases hq:Zv0 H x with
  | none=>rw[hq] at h;cases h
  | some q=>
   have hq':=hq
   unfold Zv0 at hq
   cases hw:Zts H x with
   | none=>rw[hw] at hq;cases hq
   | some w=>
    obtain⟨b,zs⟩:=w
    rw[hw] at hq
    dsimp only at hq
    cases hl:Nat.ble zs.length lim with
    | false=>rw[hl] at hq;cases hq
    | true=>
     rw[hl] at hq
     cases hq
     rw[hq'] at h
     unfold Zts at hw
     split at hw
     ·rename_i b'
      split at hw
      ·rename_i xs hb
       split at hw
       ·rename_i zs' hz
        cases hw
        dsimp only[Zbc,ZiS,Zfz,Zu0,ZkE] at h
        rw[append_nil] at h
        split at h
        ·rename_i L v2 H2 hex
         cases h
         exact⟨b,xs,zs,L,rfl,hb,hz,Nat.le_of_ble_eq_true hl,hex⟩
        ·cases h
       ·cases hw
      ·cases hw
     ·cases hw
theorem Zz8 {Γ:Ctx}{cf:Zac}{It:(List V->Zi->Option Lp)->List V->Zi->Option (Ex×List V×Zi)}{f:Nat}{args:List V}{H H':Zi}{v:V} (hc:Γ.code f=some Zr1) (h:ZeX Γ cf It f args H=some (v,H')) :
  ∃n L,args=[.d (.int .i64 n)]/\0<=n/\n<=1000/\extract H.length [.ch H.length] (H++[.ch (Zhl n)])=some (L,[v],H'):=by
 unfold ZeX at h
 rw[hc] at h
 dsimp only[Zr1] at h
 match args,h with
 | [],h=>cases h
 | _ :: _ :: _,h=>cases h
 | [x],h=>
  simp only[length_cons,length_nil,Nat.beq,cT,ZG,Zd7,Zb2,opE] at h
  have hv:Opd.val (ZaA 0 [x]) (.t 0)=x:=rfl
  rw[hv] at h
  have key:∀q,ZpT H.length x=some q->∃n,x = .d (.int .i64 n)/\0<=n/\n<=1000/\q=(.ch H.length,[],[.ch (Zhl n)]):=by
   intro q hq
   cases x<;>try (cases hq;done)
   rename_i y
   cases y<;>try (cases hq;done)
   rename_i k n
   cases k<;>try (cases hq;done)
   unfold ZpT at hq
   dsimp only at hq
   cases hb:decide (0<=n)&&decide (n<=1000) with
   | false=>rw[hb] at hq;cases hq
   | true=>
    rw[hb] at hq
    rw[aT,decide_eq_true_eq,decide_eq_true_eq] at hb
    cases hq
    exact⟨n,rfl,hb.1,hb.2,rfl⟩
  cases hq:ZpT H.length x with
  | none=>rw[hq] at h;cases h
  | some q=>
   obtain⟨n,rfl,h0,h1,rfl⟩:=key q hq
   rw[hq] at h
   simp only[Zlp,Zbc,ZiS] at h
   split at h
   ·rename_i L v2 H2 hex
    cases h
    exact⟨n,L,rfl,h0,h1,hex⟩
   ·cases h
theorem ZBT {Γ:Ctx}{cf:Zac}{It:(List V->Zi->Option Lp)->List V->Zi->Option (Ex×List V×Zi)}{f:Nat}{args:List V}{H H':Zi}{v:V} (hc:Γ.code f=some Zq4) (h:ZeX Γ cf It f args H=some (v,H')) :
  ∃b xs n L,args=[.ch b,.d (.int .i64 n)]/\nth H b=some (.ch xs)/\0<=n/\n<=1000 /\
   extract H.length [.d (.tup [.list true ((bif Nat.ble n.toNat xs.length then xs.take n.toNat else []).map fun n=>.int .i64 n),.bool (Nat.ble n.toNat xs.length)])] (ZbL H b (.ch (bif Nat.ble n.toNat xs.length then xs.drop n.toNat else [])))=some (L,[v],H'):=by
 unfold ZeX at h
 rw[hc] at h
 dsimp only[Zq4] at h
 match args,h with
 | [],h=>cases h
 | [_],h=>cases h
 | _ :: _ :: _ :: _,h=>cases h
 | [x,y],h=>
  have key:∀q,Zmi H x y=some q->∃b xs n,x = .ch b/\y = .d (.int .i64 n)/\nth H b=some (.ch xs)/\0<=n/\n<=1000 /\
    q=(.tup [.d (.list true ((bif Nat.ble n.toNat xs.length then xs.take n.toNat else []).map fun n=>.int .i64 n)),.d (.bool (Nat.ble n.toNat xs.length))],[(b,.ch (bif Nat.ble n.toNat xs.length then xs.drop n.toNat else []))],[]):=by
   intro q hq
   unfold Zmi at hq
   cases ho:ZsH H x with
   | none=>rw[ho] at hq;cases hq
   | some p=>
    obtain⟨b,xs⟩:=p
    rw[ho] at hq
    obtain⟨rfl,hb⟩:=ZtJ ho
    dsimp only at hq
    cases y<;>try (cases hq;done)
    rename_i y
    cases y<;>try (cases hq;done)
    rename_i k n
    cases k<;>try (cases hq;done)
    dsimp only at hq
    cases hn:decide (0<=n)&&decide (n<=1000) with
    | false=>rw[hn] at hq;cases hq
    | true=>
     rw[hn,cT] at hq
     rw[aT,decide_eq_true_eq,decide_eq_true_eq] at hn
     refine⟨b,xs,n,rfl,rfl,hb,hn.1,hn.2,?_⟩
     cases hl:Nat.ble n.toNat xs.length with
     | true=>rw[hl] at hq;cases hq;rfl
     | false=>rw[hl] at hq;cases hq;rfl
  cases hq:Zmi H x y with
  | none=>
   have e:Zd7 Γ cf [⟨some 2,.chTake (.t 0) (.t 1),none,[],0⟩,⟨some 3,.extract (.t 2) 0,none,[],0⟩,⟨some 4,.extract (.t 2) 1,none,[],0⟩] (ZaA 0 [x,y]) H=none:=by
    unfold Zd7
    simp only[Zb2,opE]
    rw[show Opd.val (ZaA 0 [x,y]) (.t 0)=x from rfl,show Opd.val (ZaA 0 [x,y]) (.t 1)=y from rfl,hq]
   simp only[length_cons,length_nil,Nat.beq,cT,ZG,e] at h
   cases h
  | some q=>
   obtain⟨b,xs,n,rfl,rfl,hb,h0,h1,rfl⟩:=key q hq
   refine⟨b,xs,n,?_⟩
   obtain⟨zs,hzs⟩:∃zs,(bif Nat.ble n.toNat xs.length then xs.take n.toNat else []).map (fun n=>D.int .i64 n)=zs:=⟨_,rfl⟩
   obtain⟨H1,hH1⟩:∃H1,ZbL H b (.ch (bif Nat.ble n.toNat xs.length then xs.drop n.toNat else []))=H1:=⟨_,rfl⟩
   rw[hzs] at hq ⊢
   rw[hH1]
   have e:Zd7 Γ cf [⟨some 2,.chTake (.t 0) (.t 1),none,[],0⟩,⟨some 3,.extract (.t 2) 0,none,[],0⟩,⟨some 4,.extract (.t 2) 1,none,[],0⟩] (ZaA 0 [.ch b,.d (.int .i64 n)]) H=some ((((ZaA 0 [.ch b,.d (.int .i64 n)]).set 2 (.tup [.d (.list true zs),.d (.bool (Nat.ble n.toNat xs.length))])).set 3 (.d (.list true zs))).set 4 (.d (.bool (Nat.ble n.toNat xs.length))),H1):=by
    unfold Zd7
    simp only[Zb2,opE]
    rw[show Opd.val (ZaA 0 [V.ch b,.d (.int .i64 n)]) (.t 0) = .ch b from rfl,show Opd.val (ZaA 0 [V.ch b,.d (.int .i64 n)]) (.t 1) = .d (.int .i64 n) from rfl,hq]
    simp only[Zlp,Zbc,append_nil,hH1]
    have x2:Opd.val ((ZaA 0 [V.ch b,.d (.int .i64 n)]).set 2 (.tup [.d (.list true zs),.d (.bool (Nat.ble n.toNat xs.length))])) (.t 2) = .tup [.d (.list true zs),.d (.bool (Nat.ble n.toNat xs.length))]:=rfl
    have x3:∀z,Opd.val (((ZaA 0 [V.ch b,.d (.int .i64 n)]).set 2 (.tup [.d (.list true zs),.d (.bool (Nat.ble n.toNat xs.length))])).set 3 z) (.t 2) = .tup [.d (.list true zs),.d (.bool (Nat.ble n.toNat xs.length))]:=fun _=>rfl
    simp only[Zd7,Zb2,opE,x2,x3,nth,Zba,Zlp,Zbc,append_nil]
   simp only[length_cons,length_nil,Nat.beq,cT,ZG,e] at h
   have hr:ZiS ((((ZaA 0 [.ch b,.d (.int .i64 n)]).set 2 (.tup [.d (.list true zs),.d (.bool (Nat.ble n.toNat xs.length))])).set 3 (.d (.list true zs))).set 4 (.d (.bool (Nat.ble n.toNat xs.length)))) H1 [(3,none),(4,none)]=some [.d (.list true zs),.d (.bool (Nat.ble n.toNat xs.length))]:=rfl
   rw[hr] at h
   dsimp only at h
   split at h
   ·rename_i L v2 H2 hex
    cases h
    exact⟨L,rfl,hb,h0,h1,hex⟩
   ·cases h
theorem ZC6 {Γ:Ctx}{cf:Zac}{It:(List V->Zi->Option Lp)->List V->Zi->Option (Ex×List V×Zi)}{f:Nat}{args:List V}{H H':Zi}{v:V} (hc:Γ.code f=some ZBo) (h:ZeX Γ cf It f args H=some (v,H')) :
  ∃n L,args=[.d (.int .u64 n)]/\extract H.length [.bad] H=some (L,[v],H'):=by
 unfold ZeX at h
 rw[hc] at h
 dsimp only[ZBo] at h
 match args,h with
 | [],h=>cases h
 | _ :: _ :: _,h=>cases h
 | [x],h=>
  simp only[length_cons,length_nil,Nat.beq,cT,ZG,Zd7,Zb2,opE] at h
  have hv:Opd.val (ZaA 0 [x]) (.t 0)=x:=rfl
  rw[hv] at h
  cases hq:ZnW .eql x (Opd.val (ZaA 0 [x]) (.c (.d (.int .u64 0)))) with
  | none=>rw[hq] at h;cases h
  | some r=>
   rw[hq] at h
   have hx:∃n,x = .d (.int .u64 n):=by
    have hq2:ZnW .eql x (.d (.int .u64 0))=some r:=hq
    clear hq h hv
    cases x<;>try (cases hq2;done)
    rename_i y
    cases y<;>try (cases hq2;done)
    rename_i k n
    cases k<;>first | (cases hq2;done) | exact⟨n,rfl⟩
   obtain⟨n,rfl⟩:=hx
   refine⟨n,?_⟩
   simp only[Zba,Zlp,Zbc,append_nil,ZiS] at h
   split at h
   ·rename_i L v2 H2 hex
    cases h
    exact⟨L,rfl,hex⟩
   ·cases h
theorem ZAw {Γ:Ctx}{cf:Zac}{It:(List V->Zi->Option Lp)->List V->Zi->Option (Ex×List V×Zi)}{f id:Nat}{args:List V}{H:Zi}{q:V×Zi} (hc:Γ.code f=some (Zwr id)) (h:ZeX Γ cf It f args H=some q) :
  ∃l r,args=ZbM l/\H=[]/\Zm9 id l=some r/\q=(.d r,[]):=by
 unfold ZeX at h
 rw[hc] at h
 dsimp only[Zwr] at h
 match args,h with
 | [],h=>cases h
 | [x],h=>cases h
 | _ :: _ :: _ :: _,h=>cases h
 | [x,y],h=>
  cases H with
  | cons b H=>cases h
  | nil=>
   have e:Zd7 Γ cf [⟨some 2,.spec id [.t 0,.t 1],none,[],0⟩] (ZaA 0 [x,y]) []=(match ZkE [x,y] with | some l=>(match Zm9 id l with | some r=>some ((ZaA 0 [x,y]).set 2 (.d r),[]) | none=>none) | none=>none):=by
    have hv:Zd4 (ZaA 0 [x,y]) [.t 0,.t 1]=[x,y]:=rfl
    unfold Zd7
    simp only[Zb2,opE,hv]
    cases ZkE [x,y] with
    | none=>rfl
    | some l=>
     dsimp only
     cases Zm9 id l<;>rfl
   rw[show ZG Γ cf It (List.length ([]:Zi)) (.ops [⟨some 2,.spec id [.t 0,.t 1],none,[],0⟩]) (ZaA 0 [x,y]) []=(match Zd7 Γ cf [⟨some 2,.spec id [.t 0,.t 1],none,[],0⟩] (ZaA 0 [x,y]) [] with | some (e,H)=>some (.normal,e,H) | none=>none) from rfl,e] at h
   cases hl:ZkE [x,y] with
   | none=>rw[hl] at h;cases h
   | some l=>
    rw[hl] at h
    dsimp only at h
    cases hr:Zm9 id l with
    | none=>rw[hr] at h;cases h
    | some r=>rw[hr] at h;exact⟨l,r,Zmk hl,rfl,hr,(Option.some.inj h).symm⟩
section
variable {P:Program} {G:Z1} {w:World} {e:Env} {a:Act} {H1:Zi}
theorem Zwh {fn:FnI} (h:Zt4 fn=true):fn=⟨1,.seq (.ops [oB 2 (.append 1 (.c (.nilsl 1)) (.t 0))]) .ret,[(2,none)]⟩:=by
 unfold Zt4 at h
 split at h
 ·rfl
 ·cases h
theorem ZCR {N:Nat}{Rf:RP}{wf:World}{Γ:Ctx}{cf:Zac}{It:(List V->Zi->Option Lp)->List V->Zi->Option (Ex×List V×Zi)}{k:Nat}{code:Code}{H':Zi}{r:Ex}{e':Env} (c:ZhA P G cf Rf wf) (hk:ZwS P G N code=true)
  (h:ZG Γ cf It k (.seq (.ops [oB 2 (.append 1 (.c (.nilsl 1)) (.t 0))]) .ret) e H1=some (r,e',H')) (s:Sim N Rf wf e H1 a w) (hb:∀t,0<t->e t = .bad):code.wp P (fun ex a' w'=>Zny r ex/\Sim N Rf wf e' H' a' w') a w:=by
 have hz:∀(e:Env),Opd.val e (.t 0)=e 0:=fun _=>rfl
 simp only[ZG,Zd7,Zb2,opE] at h
 have hv0:Opd.val e (.c (.nilsl 1)) = .nilsl 1:=rfl
 have ha:∃ys,elems H1 (e 0)=some ys/\Zjz 1 ys 0=true/\Nat.ble ys.length lim=true/\ZgN H1.length H1 1 (.nilsl 1) (e 0)=some (.sl H1.length 1,[],[.arr 1 ys]):=by
  have:∃q,ZgN H1.length H1 1 (.nilsl 1) (e 0)=some q:=by
   rw[hv0,hz] at h
   cases hq:ZgN H1.length H1 1 (.nilsl 1) (e 0) with
   | none=>rw[hq] at h;cases h
   | some q=>exact⟨q,rfl⟩
  obtain⟨q,hq⟩:=this
  have hq':=hq
  unfold ZgN at hq
  cases hes:elems H1 (e 0) with
  | none=>rw[hes] at hq;cases hq
  | some ys=>
   rw[hes] at hq
   dsimp only at hq
   cases hs:Zjz 1 ys 0 with
   | false=>rw[hs] at hq;cases hq
   | true=>
    rw[hs] at hq
    simp only[cT] at hq
    cases hl:Nat.ble ys.length lim with
    | false=>rw[hl] at hq;cases hq
    | true=>
     rw[hl] at hq
     simp only[cT,sJ] at hq
     exact⟨ys,rfl,hs,hl,by rw[hq',hq]⟩
 obtain⟨ys,hes,hsz,hlm,hap⟩:=ha
 rw[hv0,hz,hap] at h
 dsimp only[Zbc] at h
 simp only[sJ,pJ] at h
 obtain⟨rfl,rfl,rfl⟩:=h
 unfold ZwS at hk
 split at hk
 case h_2=>cases hk
 rename_i i0 os0 i1 os1 i2 os2 i3 os3
 simp only[aT] at hk
 obtain⟨k0,k1,k2,k3⟩:=hk
 refine wp_seq (wp_region_list (Znt c os0.toList _ e H1 a w k0 (show Zd7 Γ cf [oB 2 (.mov (.c (.nilsl 1)))] e H1=some (e.set 2 (.nilsl 1),H1) from by simp[Zd7,Zb2,opE,Zba,Zlp,Zbc,Opd.val]) s fun a w s=>?_))
 refine wp_seq (wp_seq (wp_region_list ?_))
 unfold ZBL at k1
 split at k1
 case h_2=>cases k1
 rename_i o o2 hos
 simp only[aT] at k1
 obtain⟨q1,q2,q3,q4⟩:=k1
 rw[hos]
 simp only[ZnY,aT] at q1
 obtain⟨p1,p2,p3⟩:=q1
 obtain⟨R,x,ok,hH,hM,hE⟩:=s.ex
 have pre:Pre G R w (e.set 2 (.nilsl 1)) a H1:=⟨ok,x.gok c.ok.b01 c.g,hE,fun b blk hb _=>by rw[hH];exact hb⟩
 unfold wpList
 have hw1:=ZoV (a:=a) hE p2 (show Zb2 (e.set 2 (.nilsl 1)) none=some true from rfl)
 rw[hw1]
 simp only[if_true]
 have hp:ZK R.H [] H1.length [] H1:=by rw[hH];have:=ZfA H1 [] [];simpa [Zbc] using this
 refine .inl ((Zym pre c.cf p3 (show opE Γ cf (e.set 2 (.nilsl 1)) H1.length H1 (.mov (.t 0))=some (e 0,[],[]) from rfl) (fun i h1 _=>hM i h1) hp).wp fun u w2 hpost=>?_)
 obtain⟨R2,x2,ok2,hH2,hv2,hM2⟩:=hpost
 have hE2:Zgj R2 w2 ((e.set 2 (.nilsl 1)).set 3 (e 0)) (a.put o.dst u):=Zn7 (d':=some 3) (x2.envOK ok.b01 hE) p1 s.tm hv2
 have s2:Sim N Rf wf ((e.set 2 (.nilsl 1)).set 3 (e 0)) H1 (a.put o.dst u) w2:=⟨⟨R2,x.trans x2,ok2,hH2,fun i hi=>hM2 i (hM i hi) (by simp),hE2⟩,by rw[Zq7];exact s.tm,by rw[ZrZ];exact s.df,s.hl⟩
 have pre2:Pre G R2 w2 ((e.set 2 (.nilsl 1)).set 3 (e 0)) (a.put o.dst u) H1:=⟨ok2,(x.trans x2).gok c.ok.b01 c.g,hE2,fun b blk hb _=>by rw[hH2];exact hb⟩
 unfold wpList
 have hw2:=ZoV (a:=a.put o.dst u) hE2 q3 (show Zb2 ((e.set 2 (.nilsl 1)).set 3 (e 0)) none=some true from rfl)
 rw[hw2]
 simp only[if_true]
 split at q4
 case h_2=>cases q4
 rename_i t n1 n2 t' hop
 unfold ZgL at q4
 split at q4
 case h_2=>cases q4
 rename_i el hu
 have hd3:Z5 R2 w2 (e 0) ((a.put o.dst u).eval (.tmp 3)):=hE2 3
 obtain⟨us2,ad2,cap2,y1,y2,hEl,y4⟩:=ZwB pre2 hes hsz hd3
 have hrun:(execOp (a.put o.dst u).eval o2).run P w2 = .ok (.value (.bool ad2.isNone)) w2:=by
  have hx:execOp (a.put o.dst u).eval o2=(do pure (Next.value (<- (do eqGuard .eql t (.tmp 3) (.const (.slice none n1 n2)) ((a.put o.dst u).eval (.tmp 3)) (.slice none n1 n2);binOp .eql t ((a.put o.dst u).eval (.tmp 3)) (.slice none n1 n2):Sem Value)))):=by unfold execOp;rw[hop];rfl
  have hq:(Op.equalIn 10000 t (.slice ad2 ys.length cap2) (.slice none n1 n2)).run P w2 = .ok ad2.isNone w2:=by
   show(Op.equalIn (9999+1) t (.slice ad2 ys.length cap2) (.slice none n1 n2)).run P w2 = .ok ad2.isNone w2
   rw[Op.equalIn]
   simp only[Sem.run_bind,run_underlying hu,Result.andThen_ok]
   cases ad2<;>rfl
  rw[hx,y1]
  simp[eqGuard,binOp,Op.equal,Op.maxDepth,hq]
 refine .inl ((Zbl.val (Post:=fun u' w'=>u' = .bool ad2.isNone/\w2=w') hrun ⟨rfl,rfl⟩).wp fun u4 w4 hp4=>?_)
 obtain⟨rfl,rfl⟩:=hp4
 have hE4:Zgj R2 w2 (((e.set 2 (.nilsl 1)).set 3 (e 0)).set 4 (.d (.bool ad2.isNone))) ((a.put o.dst u).put o2.dst (.bool ad2.isNone)):=Zn7 (d':=some 4) hE2 q2 s2.tm (by simp[Z5,RP.den,Zaf])
 have s4:Sim N Rf wf (((e.set 2 (.nilsl 1)).set 3 (e 0)).set 4 (.d (.bool ad2.isNone))) H1 ((a.put o.dst u).put o2.dst (.bool ad2.isNone)) w2:=⟨⟨R2,x.trans x2,ok2,hH2,fun i hi=>hM2 i (hM i hi) (by simp),hE4⟩,by rw[Zq7];exact s2.tm,by rw[ZrZ];exact s2.df,s2.hl⟩
 generalize (a.put o.dst u).put o2.dst (.bool ad2.isNone)=a4 at hE4 s4
 have hcond:=hE4 4
 have h44:(((e.set 2 (.nilsl 1)).set 3 (e 0)).set 4 (.d (.bool ad2.isNone))) 4 = .d (.bool ad2.isNone):=rfl
 rw[h44] at hcond
 have hcond:a4.eval (.tmp 4) = .bool ad2.isNone:=Zui hcond
 unfold wpList
 have weaken:∀{e5:Env} {a5:Act} {w5:World} {H5:Zi},Sim N Rf wf e5 H5 a5 w5->(∀t,t=0∨t=2->e5 t=(e.set 2 (.sl H1.length 1)) t)->Sim N Rf wf (e.set 2 (.sl H1.length 1)) H5 a5 w5:=fun {e5 a5 w5 H5} s5 he=>by
  obtain⟨R5,x5,ok5,hH5,hM5,hE5⟩:=s5.ex
  refine⟨⟨R5,x5,ok5,hH5,hM5,fun t=>?_⟩,s5.tm,s5.df,s5.hl⟩
  by_cases h0:t=0∨t=2
  ·rw[<- he t h0];exact hE5 t
  ·have h1:(e.set 2 (.sl H1.length 1)) t = .bad:=by
    have:Nat.beq 2 t=false:=by
     cases hbq:Nat.beq 2 t with
     | false=>rfl
     | true=>exact absurd (.inr (nQ hbq).symm) h0
    unfold Env.set
    rw[this]
    exact hb t (Nat.pos_of_ne_zero fun h=>h0 (.inl h))
   rw[h1]
   exact trivial
 cases hn:ad2 with
 | none=>
  rw[hn] at hcond
  refine wp_cond_true hcond ?_
  have hy0:ys=[]:=Classical.byContradiction fun hne=>by
   obtain⟨b,off,h1,_⟩:=y4 hne
   rw[hn] at h1;cases h1
  subst hy0
  refine wp_seq (wp_region_list (Znt c os2.toList _ _ H1 a4 w2 k2 (show Zd7 Γ cf [oB 2 (.mov (.c (.nilsl 1)))] _ H1=some (_,H1) from by simp[Zd7,Zb2,opE,Zba,Zlp,Zbc,Opd.val];rfl) s4 fun a5 w5 s5=>?_))
  refine wp_ret ?_
  refine⟨rfl,?_⟩
  obtain⟨R5,x5,ok5,hH5,hM5,hE5⟩:=s5.ex
  have hd2:=hE5 2
  have h22:((((e.set 2 (.nilsl 1)).set 3 (e 0)).set 4 (.d (.bool ad2.isNone))).set 2 (.nilsl 1)) 2 = .nilsl 1:=rfl
  have hd2:∃ad,a5.eval (.tmp 2) = .slice ad 0 0:=by
   rw[h22] at hd2
   exact hd2
  obtain⟨R6,x6,ok6,hH6,hv6,hM6⟩:=Post.number (nid:=H1.length) (H':=H1++[.arr 1 []]) ok5 (sz:=1) (by omega) (hM5 _ (Nat.le_refl _)) (by rw[hH5];have:=ZfA H1 [] [.arr 1 []];simpa [Zbc] using this) hd2
  show Sim N Rf wf (e.set 2 (.sl H1.length 1)) (H1++[.arr 1 []]) a5 w5
  refine⟨⟨R6,x5.trans x6,ok6,hH6,fun i hi=>hM6 i (hM5 i (by rw[lA] at hi;simp at hi;omega)) (by rw[lA] at hi;simp at hi ⊢;omega),fun t=>?_⟩,s5.tm,s5.df,by rw[lA];have:=s5.hl;omega⟩
  by_cases h2:t=2
  ·subst h2;exact hv6
  ·have hne:Nat.beq 2 t=false:=by
    cases hbq:Nat.beq 2 t with
    | false=>rfl
    | true=>exact absurd (nQ hbq).symm h2
   by_cases h0:t=0
   ·subst h0
    have h3:((((e.set 2 (.nilsl 1)).set 3 (e 0)).set 4 (.d (.bool ad2.isNone))).set 2 (.nilsl 1)) 0=(e.set 2 (.sl H1.length 1)) 0:=rfl
    have h4:=x6.envOK ok5.b01 hE5 0
    rw[<- h3]
    simpa using h4
   ·have h1:(e.set 2 (.sl H1.length 1)) t = .bad:=by
     unfold Env.set
     rw[hne]
     exact hb t (Nat.pos_of_ne_zero h0)
    rw[h1]
    exact trivial
 | some ad=>
  rw[hn] at hcond
  refine wp_cond_false hcond (wp_skip ?_)
  refine wp_seq (wp_region_list (Znt (Γ:=Γ) c os3.toList _ _ H1 a4 w2 k3 (e':=(((((((e.set 2 (.nilsl 1)).set 3 (e 0)).set 4 (.d (.bool ad2.isNone))).set 5 (.nilsl 1)).set 6 (e 0)).set 7 (.sl H1.length 1)).set 2 (.sl H1.length 1))) (H':=H1++[.arr 1 ys]) ?_ s4 fun a5 w5 s5=>?_))
  ·have t0:∀(f:Env),f 0=e 0->Opd.val f (.t 0)=e 0:=fun _ h=>h
   simp only[Zd7,Zb2,opE,Zba,Zlp,Nat.beq,cT,Zbc,append_nil]
   have e1:Opd.val ((((e.set 2 (.nilsl 1)).set 3 (e 0)).set 4 (.d (.bool ad2.isNone))).set 5 (.nilsl 1)) (.t 0)=e 0:=rfl
   have e2:∀f:Env,Opd.val ((f.set 5 (.nilsl 1)).set 6 (e 0)) (.t 5) = .nilsl 1:=fun _=>rfl
   have e3:∀f:Env,Opd.val (f.set 6 (e 0)) (.t 6)=e 0:=fun _=>rfl
   simp only[e1,e2,e3,hap]
   rfl
  ·refine wp_ret ⟨rfl,weaken s5 fun t ht=>?_⟩
   rcases ht with rfl | rfl<;>rfl
end
theorem ZEQ {P:Program}{G:Z1}{Γ:Ctx}{cf:Zac}{okD:Nat->Array Oper->List Op1->Bool} (hcf:ZeF P G cf) (hD:∀N,ZnS P G N Γ cf (okD N)) (hall:∀f fn,Γ.code f=some fn->Zup P G okD f fn=true∨Zpl P G f fn) (m:Nat) :
  ZeF P G (ZeX Γ cf fun F=>ZaR F m):=by
 intro f args H v H' h
 unfold ZeX at h
 cases hc:Γ.code f with
 | none=>rw[hc] at h;cases h
 | some fn=>
  rw[hc] at h
  dsimp only at h
  cases hn:Nat.beq args.length fn.nargs with
  | false=>rw[hn] at h;cases h
  | true=>
   rw[hn] at h
   simp only[cT] at h
   rcases hall f fn hc with hok | (⟨k1,id,rfl,hs⟩ | ⟨k1,rfl,hS⟩ | ⟨k1,rfl,hA⟩ | ⟨k1,rfl,hF⟩ | ⟨k1,rfl,hT⟩)
   case inr.inr.inl=>
    have hq:ZeX Γ cf (fun F=>ZaR F m) f args H=some (v,H'):=by
     unfold ZeX
     rw[hc]
     dsimp only
     rw[hn]
     simp only[cT]
     exact h
    obtain⟨b,xs,zs,L,rfl,hb,hz,hl,hex⟩:=ZAJ hc hq
    refine⟨k1,fun R w us ok g hH hM ha=>?_⟩
    subst hH
    obtain⟨u0,us',rfl,hd,rfl⟩:=ha
    refine(Zy5 hS ok hM hb hz hl hd).mono ?_
    rintro e w' ⟨rfl,R1,x1,ok1,hH1,hM1⟩
    have fc:ZhA P G cf R w:=⟨hcf,ok,g,hM⟩
    have hlen:(ZbL R.H b (.arr 1 ((sortI zs).map fun n=>D.int .i64 n))).length=R.H.length:=by rw[Zah,length_set]
    obtain⟨R2,x2,ok2,hH2,hM2,hv2,hl2⟩:=ZfM fc x1 ok1 hH1 (fun i hi=>hM1 i (by rw[hlen] at hi;exact hi)) (by rw[hlen];exact Nat.le_refl _) hex
    obtain⟨u2,us2,e2,e3,_⟩:=hv2 [.tuple #[]] ⟨_,[],rfl,by simp[Z5,RP.den,Zaf,Z6],rfl⟩
    cases e2
    exact⟨_,rfl,R2,x2,ok2,hH2,e3,hM2,hl2⟩
   case inr.inr.inr.inr.inl=>
    have hq:ZeX Γ cf (fun F=>ZaR F m) f args H=some (v,H'):=by
     unfold ZeX
     rw[hc]
     dsimp only
     rw[hn]
     simp only[cT]
     exact h
    obtain⟨n,L,rfl,h0,h1,hex⟩:=Zz8 hc hq
    refine⟨k1,fun R w us ok g hH hM ha=>?_⟩
    subst hH
    obtain⟨u0,us',rfl,hd,rfl⟩:=ha
    obtain rfl:u0 = .int .i64 n:=hd
    refine(hF n w h0 h1).mono ?_
    rintro e w' ⟨cap,s,r,rfl,hm⟩
    exact Zyv hcf ok g hM hm hex
   case inr.inr.inr.inr.inr=>
    have hq:ZeX Γ cf (fun F=>ZaR F m) f args H=some (v,H'):=by
     unfold ZeX
     rw[hc]
     dsimp only
     rw[hn]
     simp only[cT]
     exact h
    obtain⟨b,xs,n,L,rfl,hb,h0,h1,hex⟩:=ZBT hc hq
    refine⟨k1,fun R w us ok g hH hM ha=>?_⟩
    subst hH
    obtain⟨u0,us',rfl,hd,u1,us2,rfl,hd1,rfl⟩:=ha
    obtain rfl:u1 = .int .i64 n:=hd1
    obtain⟨c,cap,s,r,rfl,hmc,hch⟩:=ZEi ok hd rfl hb
    refine(hT n xs c cap s r w h0 h1 hch).mono ?_
    rintro e w' ⟨w1,r',u,rfl,g1,g4,g5,g6,g7,g8,hm,hh⟩
    exact ZyE hcf ok g hM hb hmc hch g1 g4 g5 g6 g7 g8 hm hh hex
   case inr.inr.inr.inl=>
    have hq:ZeX Γ cf (fun F=>ZaR F m) f args H=some (v,H'):=by
     unfold ZeX
     rw[hc]
     dsimp only
     rw[hn]
     simp only[cT]
     exact h
    obtain⟨n,L,rfl,hex⟩:=ZC6 hc hq
    refine⟨k1,fun R w us ok g hH hM ha=>?_⟩
    subst hH
    obtain⟨u0,us',rfl,hd,rfl⟩:=ha
    obtain rfl:u0 = .int .u64 n:=hd
    refine(hA n R w ok g).mono ?_
    rintro e w' ⟨u,rfl,rfl⟩
    have fc:ZhA P G cf R w':=⟨hcf,ok,g,hM⟩
    obtain⟨R2,x2,ok2,hH2,hM2,hv2,hl2⟩:=ZfM fc (Ext.refl R w') ok rfl hM (Nat.le_refl _) hex
    obtain⟨u2,us2,e2,e3,_⟩:=hv2 [u] ⟨_,[],rfl,trivial,rfl⟩
    cases e2
    exact⟨_,rfl,R2,x2,ok2,hH2,e3,hM2,hl2⟩
   case inr.inl=>
    have hq:ZeX Γ cf (fun F=>ZaR F m) f args H=some (v,H'):=by
     unfold ZeX
     rw[hc]
     dsimp only
     rw[hn]
     simp only[cT]
     exact h
    obtain⟨l,r,rfl,rfl,hr,hv⟩:=ZAw hc hq
    cases hv
    refine⟨k1,fun R w us ok g hH hM ha=>(hs l r R w us hr ok hH ha).mono ?_⟩
    rintro e w' ⟨u,he,hd,hx⟩
    refine⟨u,he,R,hx,⟨ok.b01,?_,?_,?_,?_,?_,fun c hb=>lt_of_lt_of_le (ok.bl c hb) hx.grow⟩,hH,hd,hM,by rw[hH];exact Nat.le_refl _⟩
    ·intro i blk hb;rw[hH] at hb;simp at hb
    ·intro i j c hi;rw[hH] at hi;simp[ZN,nth] at hi
    ·intro i c hm;rw[hM i (zero_le _)] at hm;cases hm
    ·intro i m blk hb;rw[hH] at hb;simp at hb
    ·intro i c hi;rw[hH] at hi;simp[ZN,nth] at hi
   unfold Zup at hok
   cases hF:P.funcs[f]? with
   | none=>rw[hF] at hok;cases hok
   | some F=>
    rw[hF] at hok
    simp only[aT] at hok
    obtain⟨k1,k2⟩:=hok
    refine⟨k1,fun R w us ok g hH hM ha=>?_⟩
    cases hb:F.body with
    | none=>rw[hb] at k2;cases k2
    | some c=>
     rw[hb] at k2
     simp only[aT] at k2
     cases hx:ZG Γ cf (fun F=>ZaR F m) H.length fn.body (ZaA 0 args) H with
     | none=>rw[hx] at h;cases h
     | some q=>
      obtain⟨r,e1,H1⟩:=q
      rw[hx] at h
      subst hH
      have fc:ZhA P G cf R w:=⟨hcf,ok,g,hM⟩
      have s:Sim F.ntmps R w (ZaA 0 args) R.H { tmps:=us.toArray++Array.replicate (F.ntmps-us.toArray.size) undef,defers:=[] } w:=
       ⟨⟨R,Ext.refl R w,ok,rfl,hM,ZD0 ha⟩,by simp;omega,rfl,Nat.le_refl _⟩
      have body:c.wp P (fun ex a' w'=>Zny r ex/\Sim F.ntmps R w e1 H1 a' w') { tmps:=us.toArray++Array.replicate (F.ntmps-us.toArray.size) undef,defers:=[] } w:=by
       have k21:=k2.1
       rw[Bool.or_eq_true] at k21
       rcases k21 with k21 | k21
       ·exact ZDb fc (hD F.ntmps) m c fn.body _ _ r e1 H1 _ w k21 hx s
       ·rw[aT] at k21
        have hfn:=Zwh k21.1
        rw[hfn] at hx hn
        refine ZCR fc k21.2 hx s fun t ht=>?_
        have hl:args.length=1:=nQ hn
        match args,hl with
        | [v0],_=>
         have:Nat.beq 0 t=false:=by cases t with
          | zero=>omega
          | succ t=>rfl
         simp[ZaA,env0,Env.set,this]
      refine calls_of_wp hF hb (wp_mono body fun ex a' w' hq=>?_)
      obtain⟨h1,h2⟩:=hq
      have fin:(match ZiS e1 H1 fn.res with | some l=>(match extract R.H.length [Zfz l] H1 with | some (_,[v],H2)=>some (v,H2) | _=>none) | none=>none)=some (v,H')->a'.defers=[]/\∃u,(results F a'.tmps).run P w' = .ok u w'/\∃u',Ending.returned u = .returned u'/\Ret R w v H' u' w':=by
       intro h
       cases hr:ZiS e1 H1 fn.res with
       | none=>rw[hr] at h;cases h
       | some l=>
        rw[hr] at h
        dsimp only at h
        obtain⟨R1,x1,ok1,hH1,hM1,hE1⟩:=h2.ex
        have pre:Pre G R1 w' e1 a' H1:=⟨ok1,x1.gok ok.b01 g,hE1,fun b blk hb' _=>by rw[hH1];exact hb'⟩
        obtain⟨us',f1,f2⟩:=Zur pre F.results.toList fn.res l k2.2 hr
        split at h
        ·rename_i L v2 H2 hex
         cases h
         obtain⟨R2,x2,ok2,hH2,hM2,hv2,hl2⟩:=ZfM fc x1 ok1 hH1 hM1 h2.hl hex
         obtain⟨u2,us2,e2,e3,_⟩:=hv2 _ ⟨_,[],rfl,ZyJ f2,rfl⟩
         cases e2
         exact⟨h2.df,_,ZuO f1,_,rfl,R2,x2,ok2,hH2,e3,hM2,hl2⟩
        ·cases h
      cases r with
      | normal=>cases h1;exact fin h
      | ret=>cases h1;exact fin h
      | exit i=>cases h
theorem Zwf {P:Program}{G:Z1}{Γ:Ctx}{okD:Nat->Array Oper->List Op1->Bool} (hD:∀cf N,ZeF P G cf->ZnS P G N Γ cf (okD N)) (hall:∀f fn,Γ.code f=some fn->Zup P G okD f fn=true∨Zpl P G f fn):∀n,ZeF P G (evN Γ n)
 | 0=>fun f args H v H' h=>by cases h
 | n+1=>ZEQ (Zwf hD hall n) (fun N=>hD _ N (Zwf hD hall n)) hall n
theorem ZEP {P:Program}{G:Z1}{Γ:Ctx}{okD:Nat->Array Oper->List Op1->Bool} (hD:∀cf N,ZeF P G cf->ZnS P G N Γ cf (okD N)) (hall:∀f fn,Γ.code f=some fn->Zup P G okD f fn=true∨Zpl P G f fn):ZeF P G (evW Γ):=by
 intro f args H v H' h
 obtain⟨n,hn⟩:=(Zi0 Γ f args H (v,H')).1 h
 exact Zwf hD hall n f args H v H' hn
end
open Option (map_some)
section
def ZBi (x:Option Opd):List Opd:=match x with | some y=>[y] | none=>[]
def ZxD:O->List Opd
 | .mov x=>[x]
 | .pick c a b=>[c,a,b]
 | .alloc z=>[]
 | .box x=>[x]
 | .build z ps=>ps.map (·.2.2)
 | .bslice sz z len ps=>ps.map (·.2)
 | .load n ag x=>[x]
 | .store n x v=>[x,v]
 | .nilck x=>[x]
 | .bin op x y=>[x,y]
 | .eqv ks neg x y=>[x,y]
 | .un op x=>[x]
 | .conv k x=>[x]
 | .mkfn f caps=>caps
 | .mkslice sz z n c=>[n,c]
 | .slice sz x lo hi mx=>x :: (ZBi lo++(ZBi hi++ZBi mx))
 | .faddr off x=>[x]
 | .iaddr sz x i=>[x,i]
 | .index len sz ag x i=>[x,i]
 | .indexS x i=>[x,i]
 | .iaddrA len sz x i=>[x,i]
 | .len x=>[x]
 | .append sz x y=>[x,y]
 | .appendD sz x y=>[x,y]
 | .mx isMax xs=>xs
 | .extract x i=>[x]
 | .mkif t x=>[x]
 | .call f args=>args
 | .callv x args=>x :: args
 | .invoke tab x args=>x :: args
 | .mkmap=>[]
 | .mapset _ m k v=>[m,k,v]
 | .mapget _ _ m k=>[m,k]
 | .panic=>[]
 | .callk _ args _=>args
 | .nilq x=>[x]
 | .spec _ args=>args
 | .storek _ x v _=>[x,v]
 | .sortI x=>[x]
 | .chNew x=>[x]
 | .chTake x n=>[x,n]
 | .chLen x=>[x]
 | .bsD x=>[x]
 | .loadF _ _ x=>[x]
 | .mkD _ _ n c=>[n,c]
 | .nilckm _ x=>[x]
theorem ZeL {e e':Env}:∀(l:List Opd),(∀y∈l,y.val e=y.val e')->Zd4 e l=Zd4 e' l
 | [],_=>rfl
 | y :: l,h=>by
  simp only[Zd4]
  rw[h y (by simp),ZeL l (fun z hz=>h z (by simp[hz]))]
theorem ZnU {e e':Env}{x:Option Opd} (h:∀y∈ZBi x,y.val e=y.val e'):x.map (·.val e)=x.map (·.val e'):=by
 cases x with
 | none=>rfl
 | some y=>simp only[map_some];rw[h y (by simp[ZBi])]
theorem Zy7 {Γ:Ctx}{cf:Zac}{e e':Env}{nid:Nat}{H:Zi}:∀(op:O),(∀y∈ZxD op,y.val e=y.val e')->opE Γ cf e nid H op=opE Γ cf e' nid H op:=by
 intro op h
 cases op<;>simp only[ZxD,mem_cons,List.not_mem_nil,or_false,forall_eq_or_imp,forall_eq,List.mem_append] at h
 case build z ps=>
  simp only[opE]
  have:(ps.map fun(o,s,x)=>(o,s,x.val e))=ps.map fun(o,s,x)=>(o,s,x.val e'):=by
   apply List.map_congr_left
   rintro ⟨o,s,x⟩ hx
   simp only[h x (List.mem_map.2 ⟨_,hx,rfl⟩)]
  rw[this]
 case bslice sz z len ps=>
  simp only[opE]
  have:(ps.map fun(i,x)=>(i,x.val e))=ps.map fun(i,x)=>(i,x.val e'):=by
   apply List.map_congr_left
   rintro ⟨i,x⟩ hx
   simp only[h x (List.mem_map.2 ⟨_,hx,rfl⟩)]
  rw[this]
 case mkfn f caps=>
  cases caps with
  | nil=>rfl
  | cons c cs=>show Zba (.fn f (Zd4 e (c :: cs)))=Zba (.fn f (Zd4 e' (c :: cs)));rw[ZeL (c :: cs) h]
 case spec id args=>simp only[opE];rw[ZeL args h]
 case mx b xs=>simp only[opE];rw[ZeL xs h]
 case call f args=>simp only[opE];rw[ZeL args h]
 case callk f args chk=>simp only[opE];rw[ZeL args h]
 case callv x args=>rw[Zgx,Zgx,h.1,ZeL args h.2]
 case invoke tab x args=>rw[Zfx,Zfx,h.1,ZeL args h.2]
 case slice sz x lo hi mx=>
  simp only[opE]
  rw[h.1,ZnU (x:=lo) (fun y hy=>h.2 y (.inl hy)),ZnU (x:=hi) (fun y hy=>h.2 y (.inr (.inl hy))),ZnU (x:=mx) (fun y hy=>h.2 y (.inr (.inr hy)))]
 all_goals (first | rfl | (simp only[opE];simp only[h];done) | (simp only[opE,h.1,h.2];done) | (simp only[opE];rw[h];done) | skip)
def Zzx:O->Bool
 | .mov _=>true
 | .pick _ _ _=>true
 | .build _ _=>true
 | .bin _ _ _=>true
 | .eqv _ _ _ _=>true
 | .un _ _=>true
 | .conv _ _=>true
 | .mkfn _ _=>true
 | .index _ _ _ _ _=>true
 | .indexS _ _=>true
 | .mx _ _=>true
 | .extract _ _=>true
 | .nilck _=>true
 | .nilckm _ _=>true
 | .faddr _ _=>true
 | .bslice _ _ 0 _=>true
 | _=>false
theorem ZD7 {Γ:Ctx}{cf:Zac}{e:Env}{nid nid':Nat}{H H':Zi}{op:O} (h:Zzx op=true):opE Γ cf e nid H op=opE Γ cf e nid' H' op:=by
 cases op<;>first | rfl | (cases h;done) | skip
 rename_i sz z len ps
 cases len with
 | zero=>rfl
 | succ n=>cases h
def ZyH:O->Bool
 | .slice _ _ _ _ _=>true
 | .faddr _ _=>true
 | .iaddr _ _ _=>true
 | .iaddrA _ _ _ _=>true
 | .len _=>true
 | _=>false
def Zl2 (H H':Zi):Prop:=∀b blk,nth H b=some blk->blk ≠ .dead->∃blk',nth H' b=some blk'/\blk.like blk'
section
variable {H H':Zi}
theorem Zl2.arr (h:Zl2 H H') {b sz:Nat}{xs:List D} (hb:nth H b=some (.arr sz xs)):∃ys,nth H' b=some (.arr sz ys)/\ys.length=xs.length:=by
 obtain⟨blk',h1,h2⟩:=h b _ hb (by simp)
 cases blk'<;>simp[Blk.like] at h2
 obtain⟨rfl,h2⟩:=h2
 exact⟨_,h1,h2⟩
theorem Zl2.cells (h:Zl2 H H') {b:Nat}{cs:List V} (hb:nth H b=some (.cells cs)):∃ds,nth H' b=some (.cells ds):=by
 obtain⟨blk',h1,h2⟩:=h b _ hb (by simp)
 cases blk'<;>simp[Blk.like] at h2
 exact⟨_,h1⟩
theorem Zrk (h:Zl2 H H') {x:V}{xs:List D} (he:elems H x=some xs):∃ys,elems H' x=some ys/\ys.length=xs.length/\∀own zs,x = .d (.list own zs)->ys=xs:=by
 unfold elems at he
 split at he
 ·cases he;exact⟨_,rfl,rfl,fun _ _ _=>rfl⟩
 ·rename_i b sz
  cases hb:nth H b with
  | none=>rw[hb] at he;cases he
  | some blk=>
   rw[hb] at he
   cases blk<;>try (cases he;done)
   rename_i sz' xs'
   obtain⟨ys,h1,h2⟩:=h.arr hb
   dsimp only at he
   cases hs:Nat.beq sz sz' with
   | false=>rw[hs] at he;cases he
   | true=>
    rw[hs] at he
    cases he
    exact⟨ys,by simp only[elems,h1,hs,cT],h2,fun _ _ h=>by cases h⟩
 ·rename_i b sz o len
  cases hb:nth H b with
  | none=>rw[hb] at he;cases he
  | some blk=>
   rw[hb] at he
   cases blk<;>try (cases he;done)
   rename_i sz' xs'
   obtain⟨ys,h1,h2⟩:=h.arr hb
   dsimp only at he
   cases hs:Nat.beq sz sz' with
   | false=>rw[hs] at he;cases he
   | true=>
    rw[hs] at he
    cases he
    exact⟨(ys.drop o).take len,by simp only[elems,h1,hs,cT],by simp[h2],fun _ _ h=>by cases h⟩
 ·cases he;exact⟨[],rfl,rfl,fun _ _ h=>by cases h⟩
 ·cases he
theorem Zrw (h:Zl2 H H') {off:Nat}{x v:V} (hf:ZkN H off x=some v):ZkN H' off x=some v:=hf
theorem Zvp (h:Zl2 H H') {len sz:Nat}{x i v:V} (hf:ZfT H len sz x i=some v):ZfT H' len sz x i=some v:=by
 unfold ZfT at hf ⊢
 split at hf
 ·rename_i k m
  cases hc:(decide (0<=m)&&decide (m<len)) with
  | false=>rw[hc] at hf;cases hf
  | true=>
   rw[hc] at hf
   exact Zrw h hf
 ·cases hf
theorem ZBv (h:Zl2 H H') {x:V}{r:D} (hf:Zue H x=some r):Zue H' x=some r:=by
 unfold Zue at hf ⊢
 cases he:elems H x with
 | none=>rw[he] at hf;cases hf
 | some xs=>
  rw[he] at hf
  obtain⟨ys,h1,h2,_⟩:=Zrk h he
  rw[h1]
  cases hf
  simp only[h2]
theorem ZvO {α:Type}{xs ys:List α}{i:Int}{x:α} (hl:ys.length=xs.length) (h:Zt xs i=some x):∃y,Zt ys i=some y:=by
 obtain⟨h0,h1,_⟩:=Zi2 xs i x h
 have hlt:i.toNat<ys.length:=by omega
 refine⟨ys[i.toNat],?_⟩
 unfold Zt
 simp only[h0,decide_true,cT,ZI]
 exact gE hlt
theorem Zwz (h:Zl2 H H') {sz:Nat}{x i v:V} (hf:Zib H sz x i=some v):Zib H' sz x i=some v:=by
 unfold Zib at hf ⊢
 split at hf
 ·rename_i k m
  split at hf
  ·exact hf
  ·rename_i b sz'
   cases hb:nth H b with
   | none=>rw[hb] at hf;cases hf
   | some blk=>
    rw[hb] at hf
    cases blk<;>try (cases hf;done)
    rename_i sz'' xs
    obtain⟨ys,h1,h2⟩:=h.arr hb
    rw[h1]
    dsimp only at hf ⊢
    cases hs:(Nat.beq sz sz'&&Nat.beq sz sz'') with
    | false=>rw[hs] at hf;cases hf
    | true=>
     rw[hs] at hf
     simp only[cT] at hf ⊢
     cases hg:Zt xs m with
     | none=>rw[hg] at hf;cases hf
     | some z=>
      rw[hg] at hf
      obtain⟨y,hy⟩:=ZvO h2 hg
      rw[hy];exact hf
  ·rename_i b sz' o len
   cases hb:nth H b with
   | none=>rw[hb] at hf;cases hf
   | some blk=>
    rw[hb] at hf
    cases blk<;>try (cases hf;done)
    rename_i sz'' xs
    obtain⟨ys,h1,h2⟩:=h.arr hb
    rw[h1]
    dsimp only at hf ⊢
    cases hs:(Nat.beq sz sz'&&Nat.beq sz sz'') with
    | false=>rw[hs] at hf;cases hf
    | true=>
     rw[hs] at hf
     simp only[cT] at hf ⊢
     cases hg:Zt ((xs.drop o).take len) m with
     | none=>rw[hg] at hf;cases hf
     | some z=>
      rw[hg] at hf
      obtain⟨y,hy⟩:=ZvO (ys:=(ys.drop o).take len) (by simp[h2]) hg
      rw[hy];exact hf
  ·cases hf
 ·cases hf
theorem ZwZ (h:Zl2 H H') {sz:Nat}{x v:V}{lo hi mx:Option V} (hf:ZiK H sz x lo hi mx=some v):ZiK H' sz x lo hi mx=some v:=by
 unfold ZiK at hf ⊢
 cases he:elems H x with
 | none=>rw[he] at hf;cases hf
 | some xs=>
  rw[he] at hf
  obtain⟨ys,h1,h2,h3⟩:=Zrk h he
  rw[h1]
  dsimp only at hf ⊢
  rw[h2]
  cases hl:Zhw lo 0 with
  | none=>rw[hl] at hf;cases hf
  | some l=>
   rw[hl] at hf
   cases hh:Zhw hi xs.length with
   | none=>rw[hh] at hf;cases hf
   | some n=>
    rw[hh] at hf
    dsimp only at hf ⊢
    cases hc:(Nat.ble l n&&Nat.ble n xs.length) with
    | false=>rw[hc] at hf;cases hf
    | true=>
     rw[hc] at hf
     simp only[cT] at hf ⊢
     cases mx with
     | some m=>exact hf
     | none=>
      dsimp only at hf ⊢
      split at hf
      ·rename_i own zs
       rw[h3 own zs rfl];exact hf
      ·exact hf
      ·exact hf
      ·exact hf
      ·cases hf
theorem ZD3 (h:Zl2 H H') {Γ:Ctx}{cf:Zac}{e:Env}{nid nid':Nat}{op:O}{r:V×List (Nat×Blk)×List Blk} (hc:ZyH op=true) (ho:opE Γ cf e nid H op=some r):opE Γ cf e nid' H' op=some r:=by
 cases op<;>first | (cases hc;done) | skip
 case slice sz x lo hi mx=>
  simp only[opE] at ho ⊢
  cases hf:ZiK H sz (x.val e) (lo.map (·.val e)) (hi.map (·.val e)) (mx.map (·.val e)) with
  | none=>rw[hf] at ho;cases ho
  | some v=>rw[hf] at ho;rw[ZwZ h hf];exact ho
 case faddr off x=>
  simp only[opE] at ho ⊢
  cases hf:ZkN H off (x.val e) with
  | none=>rw[hf] at ho;cases ho
  | some v=>rw[hf] at ho;rw[Zrw h hf];exact ho
 case iaddr sz x i=>
  simp only[opE] at ho ⊢
  cases hf:Zib H sz (x.val e) (i.val e) with
  | none=>rw[hf] at ho;cases ho
  | some v=>rw[hf] at ho;rw[Zwz h hf];exact ho
 case iaddrA len sz x i=>
  simp only[opE] at ho ⊢
  cases hf:ZfT H len sz (x.val e) (i.val e) with
  | none=>rw[hf] at ho;cases ho
  | some v=>rw[hf] at ho;rw[Zvp h hf];exact ho
 case len x=>
  simp only[opE] at ho ⊢
  cases hf:Zue H (x.val e) with
  | none=>rw[hf] at ho;cases ho
  | some v=>rw[hf] at ho;rw[ZBv h hf];exact ho
end
end
def Zpg (o:Oper):List Nat:=(o.after.toList.filter (Region.binds .any)).map (·.on)
def tb (b i:Nat):Bool:=!(Nat.beq (Nat.land (Nat.shiftRight b i) 1) 0)
def Zp3 (acc:List Nat):List Nat->Nat
 | []=>0
 | i :: l=>Nat.lor (Nat.lor (Nat.shiftLeft 1 i) (match nth acc i with | some b=>b | none=>0)) (Zp3 acc l)
def ZjF (acc:List Nat):List Oper->List Nat
 | []=>acc
 | o :: os=>ZjF (acc++[Zp3 acc (Zpg o)]) os
def Zon (os:List Oper):List Nat:=ZjF [] os
theorem Zyc (b i:Nat):tb b i=b.testBit i:=by
 unfold tb Nat.testBit
 rw[show Nat.land (Nat.shiftRight b i) 1=1 &&& (b >>> i) from Nat.and_comm _ _]
 cases h:(1 &&& b >>> i) with
 | zero=>rfl
 | succ n=>rfl
theorem ZrC (acc:List Nat) (k:Nat):∀(l:List Nat),tb (Zp3 acc l) k=true->∃i∈l,k=i∨∃b,acc[i]? = some b/\tb b k=true
 | [],h=>by rw[Zyc] at h;simp[Zp3] at h
 | i :: l,h=>by
  rw[Zyc] at h
  change ((1 <<< i ||| (match nth acc i with | some b=>b | none=>0)) ||| Zp3 acc l).testBit k=true at h
  rw[Nat.testBit_or,Nat.testBit_or,Bool.or_eq_true,Bool.or_eq_true] at h
  rcases h with(h | h) | h
  ·rw[Nat.testBit_shiftLeft] at h
   simp only[aT,decide_eq_true_eq,Nat.testBit_one_eq_true_iff_self_eq_zero] at h
   exact⟨i,by simp,.inl (by omega)⟩
  ·cases ha:nth acc i with
   | none=>rw[ha] at h;simp at h
   | some b=>rw[ha] at h;exact⟨i,by simp,.inr ⟨b,by rw[<- ZI];exact ha,by rw[Zyc];exact h⟩⟩
  ·obtain⟨j,h1,h2⟩:=ZrC acc k l (by rw[Zyc];exact h)
   exact⟨j,by simp[h1],h2⟩
theorem ZlH:∀(os:List Oper) (acc:List Nat),(ZjF acc os).length=acc.length+os.length/\(∀i,i<acc.length->(ZjF acc os)[i]? = acc[i]?) /\
  ∀(j:Nat) o,os[j]? = some o->(ZjF acc os)[acc.length+j]? = some (Zp3 ((ZjF acc os).take (acc.length+j)) (Zpg o))
 | [],acc=>⟨rfl,fun _ _=>rfl,fun j o h=>by simp at h⟩
 | o :: os,acc=>by
  obtain⟨h1,h2,h3⟩:=ZlH os (acc++[Zp3 acc (Zpg o)])
  simp only[ZjF]
  rw[lA,length_singleton] at h1 h2 h3
  refine⟨by rw[h1,length_cons];omega,fun i hi=>?_,fun j o' hj=>?_⟩
  ·rw[h2 i (by omega),List.getElem?_append_left hi]
  ·cases j with
   | zero=>
    simp at hj;subst hj
    have htake:(ZjF (acc++[Zp3 acc (Zpg o)]) os).take (acc.length+0)=acc:=by
     apply List.ext_getElem?
     intro i
     rw[List.getElem?_take]
     by_cases hi:i<acc.length
     ·rw[if_pos (by omega),h2 i (by omega),List.getElem?_append_left hi]
     ·rw[if_neg (by omega),List.getElem?_eq_none (by omega)]
    rw[htake,add_zero,h2 acc.length (by omega),List.getElem?_append_right (Nat.le_refl _)]
    simp
   | succ j=>
    have e1:=h3 j o' (by simpa using hj)
    rw[show acc.length+1+j=acc.length+(j+1) by omega] at e1
    exact e1
theorem Zzj {os:List Oper}{j k b:Nat}{o:Oper} (ho:os[j]? = some o) (hb:(Zon os)[j]? = some b) (h:tb b k=true):∃i∈Zpg o,k=i∨(i<j/\∃b',(Zon os)[i]? = some b'/\tb b' k=true):=by
 obtain⟨_,_,h3⟩:=ZlH os []
 have e:=h3 j o ho
 simp only[length_nil,zero_add] at e
 rw[show ZjF [] os=Zon os from rfl,hb] at e
 cases e
 obtain⟨i,h1,h2⟩:=ZrC _ k _ h
 refine⟨i,h1,?_⟩
 rcases h2 with h2 | ⟨b',f1,f2⟩
 ·exact .inl h2
 ·rw[List.getElem?_take] at f1
  by_cases hi:i<j
  ·rw[if_pos hi] at f1
   exact .inr ⟨hi,b',f1,f2⟩
  ·rw[if_neg hi] at f1;cases f1
structure Zbr where
 E:Nat->Env
 HH:Nat->Zi
 W:Nat->Bool
 VV:Nat->V
 UP:Nat->List (Nat×Blk)
 NW:Nat->List Blk
def Zbr.pos (t:Zbr) (j:Nat):List (Nat×Nat):=(List.range j).map fun i=>((t.HH i).length,(t.NW i).length)
structure Zbr.OK (t:Zbr) (Γ:Ctx) (cf:Zac) (p0:List (Nat×Nat)) (l:List Op1) (e:Env) (H:Zi) (e':Env) (H':Zi):Prop where
 e0:t.E 0=e
 h0:t.HH 0=H
 e1:t.E l.length=e'
 h1:t.HH l.length=H'
 w:∀(j:Nat) p,l[j]? = some p->Zb2 (t.E j) p.guard=some (t.W j)
 e:∀(j:Nat) p,l[j]? = some p->t.E (j+1)=Zlp (t.E j) p.dst (t.VV j)
 h:∀(j:Nat) p,l[j]? = some p->t.HH (j+1)=Zbc (t.HH j) (t.UP j)++t.NW j
 y:∀(j:Nat) p,l[j]? = some p->t.W j=true->opE Γ cf (t.E j) (t.HH j).length (Zga (t.HH j) (p0++t.pos j) p.mask) p.op=some (t.VV j,t.UP j,t.NW j)/\Zq6 (t.E j) (t.HH j) p (t.UP j) (t.NW j)=true
 n:∀(j:Nat) p,l[j]? = some p->t.W j=false->t.VV j = .d (.tup [])/\t.UP j=[]/\t.NW j=[]
def Zj4 {α:Type} (a:α) (f:Nat->α):Nat->α
 | 0=>a
 | n+1=>f n
theorem Zrr {Γ:Ctx}{cf:Zac}:∀(l:List Op1) (p0:List (Nat×Nat)) (e:Env) (H:Zi) (e':Env) (H':Zi),ZeH Γ cf p0 l e H=some (e',H')->∃t:Zbr,t.OK Γ cf p0 l e H e' H'
 | [],p0,e,H,e',H',h=>by
  simp only[ZeH,sJ,pJ] at h
  obtain⟨rfl,rfl⟩:=h
  exact⟨⟨fun _=>e,fun _=>H,fun _=>false,fun _=>.bad,fun _=>[],fun _=>[]⟩,rfl,rfl,rfl,rfl,by simp,by simp,by simp,by simp,by simp⟩
 | o :: l,p0,e,H,e',H',h=>by
  simp only[ZeH] at h
  have step:∀(b:Bool) (v:V) (up:List (Nat×Blk)) (nw:List Blk),Zb2 e o.guard=some b->ZeH Γ cf (p0++[(H.length,nw.length)]) l (Zlp e o.dst v) (Zbc H up++nw)=some (e',H') ->
    (b=true->opE Γ cf e H.length (Zga H p0 o.mask) o.op=some (v,up,nw)/\Zq6 e H o up nw=true)->(b=false->v = .d (.tup [])/\up=[]/\nw=[])->∃t:Zbr,t.OK Γ cf p0 (o :: l) e H e' H':=by
   intro b v up nw hw hr hy hn
   obtain⟨t,ht⟩:=Zrr l _ _ _ e' H' hr
   refine⟨⟨Zj4 e t.E,Zj4 H t.HH,Zj4 b t.W,Zj4 v t.VV,Zj4 up t.UP,Zj4 nw t.NW⟩,rfl,rfl,ht.e1,ht.h1,?_,?_,?_,?_,?_⟩
   ·intro j p hj
    cases j with
    | zero=>simp at hj;subst hj;exact hw
    | succ j=>exact ht.w j p (by simpa using hj)
   ·intro j p hj
    cases j with
    | zero=>simp at hj;subst hj;exact ht.e0
    | succ j=>exact ht.e j p (by simpa using hj)
   ·intro j p hj
    cases j with
    | zero=>simp at hj;subst hj;exact ht.h0
    | succ j=>exact ht.h j p (by simpa using hj)
   ·intro j p hj hwj
    cases j with
    | zero=>
     simp at hj;subst hj
     have:=hy hwj
     simpa [Zbr.pos,Zj4] using this
    | succ j=>
     have:=ht.y j p (by simpa using hj) hwj
     have hpos:p0++Zbr.pos ⟨Zj4 e t.E,Zj4 H t.HH,Zj4 b t.W,Zj4 v t.VV,Zj4 up t.UP,Zj4 nw t.NW⟩ (j+1)=p0++[(H.length,nw.length)]++t.pos j:=by
      unfold Zbr.pos
      rw[List.range_succ_eq_map,map_cons,List.map_map,List.append_assoc]
      rfl
     rw[hpos]
     exact this
   ·intro j p hj hwj
    cases j with
    | zero=>exact hn hwj
    | succ j=>exact ht.n j p (by simpa using hj) hwj
  cases hw:Zb2 e o.guard with
  | none=>rw[hw] at h;cases h
  | some b=>
   rw[hw] at h
   cases b with
   | false=>
    exact step false (.d (.tup [])) [] [] hw (by simpa [Zbc] using h) (fun h=>by cases h) (fun _=>⟨rfl,rfl,rfl⟩)
   | true=>
    dsimp only at h
    cases ho:opE Γ cf e H.length (Zga H p0 o.mask) o.op with
    | none=>rw[ho] at h;cases h
    | some q=>
     obtain⟨v,up,nw⟩:=q
     rw[ho] at h
     dsimp only at h
     cases hb:Zq6 e H o up nw with
     | false=>rw[hb] at h;cases h
     | true=>
      rw[hb] at h
      exact step true v up nw hw h (fun _=>⟨ho,hb⟩) (fun h=>by cases h)
def Z0 (p:Op1):Nat:=match p.eff with | 0=>bif Zzx p.op then 0 else bif ZyH p.op then 1 else 2 | 1=>1 | 3=>3 | _=>4
def Zwt (p:Op1):Bool:=match p.eff with | 3=>(match p.op with | .store _ _ _=>true | .storek _ _ _ _=>true | .append _ _ _=>true | _=>false) | _=>true
def Zv9 (p:Op1):Bool:=match p.eff with | 1=>(match p.op,p.guard with | .load _ _ (.t _),none=>true | _,_=>false) | _=>true
def ZvQ:List Opd->Nat->Bool
  | [],_=>false
  | .t i :: l,s=>Nat.beq i s || ZvQ l s
  | _ :: l,s=>ZvQ l s
def ZBg (p q:Op1):Bool:=match p.op,q.op with | .callk _ _ chk,.load 1 false (.t s)=>ZvQ chk s | .storek _ _ _ chk,.load _ _ (.t s)=>ZvQ chk s | _,_=>false
def ZCu:Opd->Option Nat
  | .t i=>some i
  | .c _=>none
def Zb6 (p:Op1):List Nat:=(ZxD p.op).filterMap ZCu++(match p.guard with | some (s,_)=>[s] | none=>[])
structure Row where
  p:Op1
  c:Nat
  s:List Nat
  b:Nat
def ZwE (i:Nat) (p:Row) (j:Nat) (q:Row):Bool:=
  Nat.ble p.c 2 || (Nat.beq i j || (tb q.b i || (tb p.b j || (Nat.beq q.c 0 || ((Nat.beq q.c 1&&(Nat.beq p.c 3 && !(Nat.beq q.p.eff 1))) || (Nat.beq q.p.eff 1&&(Nat.blt j i&&ZBg p.p q.p)))))))
def ZEm (p q:Op1):Bool:=match p.dst,q.dst with | some a,some b=>!(Nat.beq a b) | _,_=>true
def ZqS (i:Nat) (p q:Row):Bool:=ZEm p.p q.p&&(Nat.ble 3 q.c || (tb q.b i || ZhC q.p.mask i))
def Zt6 (i:Nat) (p:Row) (j:Nat) (q:Row):Bool:=match p.p.dst with | some d=>tb q.b i || (!(ZhC q.s d) || (tb p.b j || Nat.beq i j)) | none=>true
def ZwH (i:Nat) (p:Row) (j:Nat) (q:Row):Bool:=!(Nat.beq q.p.eff 1) || (Nat.blt i j || (match p.p.dst with | some d=>!(ZhC q.s d) | none=>true))
def Zy6 {α:Type} (f:Nat->α->Bool):Nat->List α->Bool
  | _,[]=>true
  | i,a :: l=>f i a&&Zy6 f (i+1) l
theorem Zgu {α:Type}{f:Nat->α->Bool}:∀(l:List α) (k:Nat),Zy6 f k l=true->∀(i:Nat) a,l[i]? = some a->f (k+i) a=true
  | [],k,_,i,a,h=>by simp at h
  | x :: l,k,hk,i,a,h=>by
    simp only[Zy6,aT] at hk
    cases i with
    | zero=>simp at h;subst h;exact hk.1
    | succ i=>
      have:=Zgu l (k+1) hk.2 i a (by simpa using h)
      rwa [show k+1+i=k+(i+1) by omega] at this
def Zq1:List Op1->List Nat->List Row
  | p :: l,b :: bs=>⟨p,Z0 p,Zb6 p,b⟩ :: Zq1 l bs
  | _,_=>[]
theorem Zk0:∀(l:List Op1) (bs:List Nat) (j:Nat) (p:Op1) (b:Nat),l[j]? = some p->bs[j]? = some b->(Zq1 l bs)[j]? = some ⟨p,Z0 p,Zb6 p,b⟩
  | [],bs,j,p,b,h,_=>by simp at h
  | _ :: _,[],j,p,b,_,h=>by simp at h
  | x :: l,y :: bs,0,p,b,h1,h2=>by simp at h1 h2;subst h1;subst h2;rfl
  | x :: l,y :: bs,j+1,p,b,h1,h2=>by simpa [Zq1] using Zk0 l bs j p b (by simpa using h1) (by simpa using h2)
def ZlS (P:Program) (G:Z1) (N:Nat) (os:Array Oper) (l:List Op1):Bool:=
  P.follows .mixedOrders&&(ZlN P G N os os.toList l&&(Zy6 (fun j o=>(Zpg o).all fun i=>Nat.blt i j) 0 os.toList &&
    (let rows:=Zq1 l (Zon os.toList)
     Zy6 (fun j q=>(Zwt q.p&&(Zv9 q.p&&(Nat.ble q.c 2 || q.p.mask.isEmpty)))&&Zy6 (fun i p=>ZwE i p j q&&(Zt6 i p j q&&(ZwH i p j q&&(!(Nat.blt i j) || ZqS i p q)))) 0 rows) 0 rows)))
structure Chk (P:Program) (G:Z1) (N:Nat) (os:Array Oper) (l:List Op1) (B:Nat->Nat->Prop):Prop where
  mixed:P.follows .mixedOrders=true
  oper:∀(j:Nat) o p,os[j]? = some o->l[j]? = some p->ZnY P G N os o p=true
  len:os.size=l.length
  pre:∀(j:Nat) o,os[j]? = some o->∀i∈Zpg o,i<j
  bef:∀(j:Nat) o k,os[j]? = some o->B k j->∃i∈Zpg o,k=i∨(i<j/\B k i)
  pair:∀(i j:Nat) p q,l[i]? = some p->l[j]? = some q->3<=Z0 p->i=j∨B i j∨B j i∨Z0 q=0∨(Z0 q=1/\Z0 p=3/\q.eff≠1)∨(q.eff=1/\j<i/\ZBg p q=true)
  dst:∀(i j:Nat) p q d,l[i]? = some p->l[j]? = some q->p.dst=some d->q.dst=some d->i=j
  early:∀(i j:Nat) p q,l[i]? = some p->l[j]? = some q->i<j->3<=Z0 q∨B i j∨i∈q.mask
  reads:∀(i j:Nat) p q d,l[i]? = some p->l[j]? = some q->p.dst=some d->d∈Zb6 q->B i j∨B j i∨i=j
  eff3:∀(j:Nat) q,l[j]? = some q->Zwt q=true
  mask:∀(j:Nat) q,l[j]? = some q->3<=Z0 q->q.mask=[]
  eff1:∀(j:Nat) q,l[j]? = some q->Zv9 q=true
  stay:∀(i j:Nat) p q d,l[i]? = some p->l[j]? = some q->q.eff=1->j<=i->p.dst=some d->¬d∈Zb6 q
theorem ZoQ:∀(l:List Nat) (b:Nat),ZhC l b=true↔b∈l
  | [],b=>by simp[ZhC]
  | a :: l,b=>by
    simp only[ZhC]
    cases h:Nat.beq a b with
    | true=>obtain rfl:=nQ h;simp
    | false=>
      have hne:¬b=a:=fun h'=>by subst h';rw[beq_refl] at h;cases h
      simp[ZoQ l b,hne]
theorem Zta {P:Program}{G:Z1}{N:Nat}{ops:Array Oper}:∀(os:List Oper) (l:List Op1),ZlN P G N ops os l=true->os.length=l.length/\∀(j:Nat) o p,os[j]? = some o->l[j]? = some p->ZnY P G N ops o p=true
  | [],[],_=>⟨rfl,fun j o p h=>by simp at h⟩
  | [],_ :: _,h=>by cases h
  | _ :: _,[],h=>by cases h
  | o :: os,p :: l,h=>by
    simp only[ZlN,aT] at h
    obtain⟨h1,h2⟩:=Zta os l h.2
    refine⟨by simp[h1],fun j o' p' ho hp=>?_⟩
    cases j with
    | zero=>simp at ho hp;subst ho;subst hp;exact h.1
    | succ j=>exact h2 j o' p' (by simpa using ho) (by simpa using hp)
theorem ZwR {P:Program}{G:Z1}{N:Nat}{os:Array Oper}{l:List Op1} (h:ZlS P G N os l=true):∃B,Chk P G N os l B:=by
  unfold ZlS at h
  simp only[aT] at h
  obtain⟨h1,h2,h3,h4⟩:=h
  obtain⟨l1,l2⟩:=Zta _ _ h2
  have bl:(Zon os.toList).length=l.length:=by
    have:=(ZlH os.toList []).1
    rw[show ZjF [] os.toList=Zon os.toList from rfl] at this
    rw[this,l1];simp
  have row:∀(j:Nat) p,l[j]? = some p->∃b,(Zon os.toList)[j]? = some b/\(Zq1 l (Zon os.toList))[j]? = some ⟨p,Z0 p,Zb6 p,b⟩:=fun j p hp=>by
    have hj:=(gQ hp).1
    refine⟨(Zon os.toList)[j]'(by omega),gE (by omega),Zk0 _ _ _ _ _ hp (gE (by omega))⟩
  have pairs:∀(i j:Nat) p q bp bq,l[i]? = some p->l[j]? = some q->(Zon os.toList)[i]? = some bp->(Zon os.toList)[j]? = some bq ->
      ZwE i ⟨p,Z0 p,Zb6 p,bp⟩ j ⟨q,Z0 q,Zb6 q,bq⟩=true/\Zt6 i ⟨p,Z0 p,Zb6 p,bp⟩ j ⟨q,Z0 q,Zb6 q,bq⟩=true/\ZwH i ⟨p,Z0 p,Zb6 p,bp⟩ j ⟨q,Z0 q,Zb6 q,bq⟩=true/\(i<j->ZqS i ⟨p,Z0 p,Zb6 p,bp⟩ ⟨q,Z0 q,Zb6 q,bq⟩=true):=fun i j p q bp bq hp hq e1 e2=>by
    have a1:=Zgu _ _ h4 j _ (Zk0 _ _ _ _ _ hq e2)
    simp only[aT,zero_add] at a1
    have a2:=Zgu _ _ a1.2 i _ (Zk0 _ _ _ _ _ hp e1)
    simp only[aT,zero_add,Bool.or_eq_true,Bool.not_eq_true'] at a2
    refine⟨a2.1,a2.2.1,a2.2.2.1,fun hij=>?_⟩
    rcases a2.2.2.2 with a3 | a3
    · rw[show Nat.blt i j=Nat.ble (i+1) j from rfl,Nat.ble_eq_true_of_le hij] at a3;cases a3
    · exact a3
  refine⟨fun i j=>∃b,(Zon os.toList)[j]? = some b/\tb b i=true,h1,fun j o p ho hp=>l2 j o p (by simpa using ho) hp,by simpa using l1,fun j o ho i hi=>?_,fun j o k ho ⟨b,e1,e2⟩=>?_,fun i j p q hp hq hc=>?_,fun i j p q d hp hq hd hd'=>?_,fun i j p q hp hq hij=>?_,fun i j p q d hp hq hd hs=>?_,fun j q hq=>?_,fun j q hq hc=>?_,fun j q hq=>?_,fun i j p q d hp hq he hij hd=>?_⟩
  · have a1:=Zgu _ _ h3 j o (by simpa using ho)
    simp only[List.all_eq_true,zero_add] at a1
    have:=a1 i hi
    simp[Nat.blt] at this;omega
  · obtain⟨i,f1,f2⟩:=Zzj (by simpa using ho) e1 e2
    exact⟨i,f1,f2⟩
  · obtain⟨bp,e1,_⟩:=row i p hp
    obtain⟨bq,e2,_⟩:=row j q hq
    have a:=(pairs i j p q bp bq hp hq e1 e2).1
    simp only[ZwE,Bool.or_eq_true,aT,ble_eq] at a
    rcases a with a | a | a | a | a | a
    · omega
    · exact .inl (nQ a)
    · exact .inr (.inl ⟨bq,e2,a⟩)
    · exact .inr (.inr (.inl ⟨bp,e1,a⟩))
    · exact .inr (.inr (.inr (.inl (nQ a))))
    · rcases a with a | a
      · refine .inr (.inr (.inr (.inr (.inl ⟨nQ a.1,nQ a.2.1,fun h=>?_⟩))))
        rw[h] at a
        exact absurd a.2.2 (by decide)
      · refine .inr (.inr (.inr (.inr (.inr ⟨nQ a.1,?_,a.2.2⟩))))
        have:=a.2.1
        simp[Nat.blt] at this;omega
  · obtain⟨bp,e1,_⟩:=row i p hp
    obtain⟨bq,e2,_⟩:=row j q hq
    have key:∀(i j:Nat) p q bp bq,l[i]? = some p->l[j]? = some q->(Zon os.toList)[i]? = some bp->(Zon os.toList)[j]? = some bq->p.dst=some d->q.dst=some d->¬i<j:=fun i j p q bp bq hp hq e1 e2 hd hd' hlt=>by
      have a:=(pairs i j p q bp bq hp hq e1 e2).2.2.2 hlt
      simp[ZqS,ZEm,hd,hd'] at a
    have k1:=key i j p q bp bq hp hq e1 e2 hd hd'
    have k2:=key j i q p bq bp hq hp e2 e1 hd' hd
    omega
  · obtain⟨bp,e1,_⟩:=row i p hp
    obtain⟨bq,e2,_⟩:=row j q hq
    have a:=(pairs i j p q bp bq hp hq e1 e2).2.2.2 hij
    simp only[ZqS,Bool.or_eq_true,aT,ble_eq] at a
    rcases a.2 with a | a | a
    · exact .inl a
    · exact .inr (.inl ⟨bq,e2,a⟩)
    · exact .inr (.inr ((ZoQ _ _).1 a))
  · obtain⟨bp,e1,_⟩:=row i p hp
    obtain⟨bq,e2,_⟩:=row j q hq
    have a:=(pairs i j p q bp bq hp hq e1 e2).2.1
    simp only[Zt6,hd,Bool.or_eq_true,Bool.not_eq_true'] at a
    rcases a with a | a | a | a
    · exact .inl ⟨bq,e2,a⟩
    · rw[(ZoQ _ _).2 hs] at a;cases a
    · exact .inr (.inl ⟨bp,e1,a⟩)
    · exact .inr (.inr (nQ a))
  · obtain⟨bq,e2,e3⟩:=row j q hq
    have a1:=Zgu _ _ h4 j _ e3
    simp only[aT] at a1
    exact a1.1.1
  · obtain⟨bq,e2,e3⟩:=row j q hq
    have a1:=Zgu _ _ h4 j _ e3
    simp only[aT,Bool.or_eq_true,ble_eq,List.isEmpty_iff] at a1
    rcases a1.1.2.2 with a2 | a2
    · omega
    · exact a2
  · obtain⟨bq,e2,e3⟩:=row j q hq
    have a1:=Zgu _ _ h4 j _ e3
    simp only[aT] at a1
    exact a1.1.2.1
  · obtain⟨bp,e1,_⟩:=row i p hp
    obtain⟨bq,e2,_⟩:=row j q hq
    have a:=(pairs i j p q bp bq hp hq e1 e2).2.2.1
    simp only[ZwH,hd,he,beq_refl,Bool.not_true,Bool.false_or,Bool.or_eq_true,Bool.not_eq_true'] at a
    intro hs
    rcases a with a | a
    · simp[Nat.blt] at a;omega
    · rw[(ZoQ _ _).2 hs] at a;cases a
section
theorem ZtM:∀(n:Nat) (H:Zi) (b i:Nat) (blk:Blk),(ZBf H b n)[i]? = some blk->blk ≠ .dead->H[i]? = some blk/\¬(b<=i/\i<b+n)
  | 0,H,b,i,blk,h,_=>⟨h,by omega⟩
  | n+1,H,b,i,blk,h,hd=>by
    obtain⟨h1,h2⟩:=ZtM n _ _ i blk h hd
    rw[Zah,List.getElem?_set] at h1
    by_cases hbi:b=i
    · rw[if_pos hbi] at h1
      split at h1
      · cases h1;exact absurd rfl hd
      · cases h1
    · rw[if_neg hbi] at h1
      exact⟨h1,by omega⟩
theorem ZpP (pos:List (Nat×Nat)):∀(mask:List Nat) (H:Zi) (i:Nat) (blk:Blk),(Zga H pos mask)[i]? = some blk->blk ≠ .dead->H[i]? = some blk/\∀m∈mask,∀b n,pos[m]? = some (b,n)->¬(b<=i/\i<b+n)
  | [],H,i,blk,h,_=>⟨h,by simp⟩
  | m :: mask,H,i,blk,h,hd=>by
    simp only[Zga] at h
    rw[ZI] at h
    cases hp:pos[m]? with
    | none=>
      rw[hp] at h
      obtain⟨h1,h2⟩:=ZpP pos mask H i blk h hd
      refine⟨h1,fun k hk b n hb=>?_⟩
      rcases List.mem_cons.1 hk with rfl | hk
      · rw[hp] at hb;cases hb
      · exact h2 k hk b n hb
    | some q=>
      obtain⟨b0,n0⟩:=q
      rw[hp] at h
      obtain⟨h1,h2⟩:=ZpP pos mask _ i blk h hd
      obtain⟨h3,h4⟩:=ZtM n0 H b0 i blk h1 hd
      refine⟨h3,fun k hk b n hb=>?_⟩
      rcases List.mem_cons.1 hk with rfl | hk
      · rw[hp] at hb;cases hb;exact h4
      · exact h2 k hk b n hb
theorem Blk.like_symm {a b:Blk} (h:a.like b):b.like a:=by
  cases a<;>cases b<;>simp_all [Blk.like]
theorem ZuP {Γ:Ctx}{cf:Zac}{e:Env}{nid:Nat}{H:Zi}{op:O}{v:V}{up:List (Nat×Blk)}{nw:List Blk} (hc:Zzx op=true∨ZyH op=true) (h:opE Γ cf e nid H op=some (v,up,nw)):nw=[]:=by
  have key:∀(x:Option V),(match x with | some v=>Zba v | none=>none)=some (v,up,nw)->nw=[]:=fun x h=>by
    cases x with
    | none=>cases h
    | some y=>exact(ZQ h).2.2
  have keyD:∀(x:Option D),(match x with | some r=>Zba (.d r) | none=>none)=some (v,up,nw)->nw=[]:=fun x h=>by
    cases x with
    | none=>cases h
    | some y=>exact(ZQ h).2.2
  cases op<;>first | (rcases hc with hc | hc<;>cases hc;done) | skip
  case nilckm tab x=>
    simp only[opE] at h
    unfold ZqP at h
    split at h
    · split at h
      · rename_i f _ _ _ _ _ _
        cases hb:Nat.beq f 2000000 with
        | true=>rw[hb] at h;exact(ZQ h).2.2
        | false=>rw[hb] at h;cases h
      · cases h
    · cases h
  case mov x=>exact(ZQ h).2.2
  case mkfn f caps=>exact(ZQ h).2.2
  case bslice sz z len ps=>
    cases len with
    | zero=>simp only[opE] at h;split at h<;>first | exact(ZQ h).2.2 | (cases h;done) | skip
    | succ n=>rcases hc with hc | hc<;>cases hc
  case build z ps=>simp only[opE] at h;split at h<;>first | exact(ZQ h).2.2 | cases h
  case pick c a b=>simp only[opE] at h;split at h<;>first | exact(ZQ h).2.2 | cases h
  case conv k x=>simp only[opE] at h;split at h<;>first | exact(ZQ h).2.2 | cases h
  case eqv ks neg x y=>
    simp only[opE] at h
    split at h
    · split at h
      · split at h
        · exact(ZQ h).2.2
        · cases h
      · cases h
    · cases h
  case extract x i=>
    simp only[opE] at h
    split at h
    · exact key _ h
    · split at h<;>first | exact(ZQ h).2.2 | cases h
    · cases h
  all_goals (simp only[opE] at h;first | exact key _ h | exact keyD _ h)
theorem Zzv {Γ:Ctx}{cf:Zac}{e:Env}{nid:Nat}{H:Zi}{op:O}{v:V}{up:List (Nat×Blk)}{nw:List Blk} (hs:(∃n x y,op = .store n x y∨∃k,op = .storek n x y k)∨∃sz x y,op = .append sz x y) (h:opE Γ cf e nid H op=some (v,up,nw)) (hu:Zq9 3 up nw=true) :
    nw=[]/\(up=[]∨∃b blk old,up=[(b,blk)]/\H[b]? = some old/\old.like blk):=by
  simp only[Zq9,aT,List.isEmpty_iff] at hu
  obtain⟨hu,rfl⟩:=hu
  refine⟨rfl,?_⟩
  rcases hs with⟨n,x,y,hs⟩ | ⟨sz,x,y,rfl⟩
  · have h:ZkU H n (x.val e) (y.val e)=some (v,up,[]):=by rcases hs with rfl | ⟨k,rfl⟩<;>exact h
    unfold ZkU at h
    split at h
    · rename_i b o _
      split at h
      · rename_i cs hb
        cases hc:(Nat.beq (y.val e).cells.length n&&Nat.ble (o+n) cs.length&&(y.val e).okb&&ZtR (y.val e).cells) with
        | false=>rw[hc] at h;cases h
        | true=>
          rw[hc] at h
          simp only[cT,sJ,pJ] at h
          obtain⟨rfl,rfl,_⟩:=h
          exact .inr ⟨_,_,.cells cs,rfl,by rw[<- ZI];exact hb,trivial⟩
      · cases h
    · rename_i b sz i k _
      split at h
      · rename_i sz' xs hb
        cases hq:Nat.beq sz sz' with
        | false=>rw[hq] at h;cases h
        | true=>
          obtain rfl:=nQ hq
          rw[hq] at h
          simp only[cT] at h
          split at h
          · rename_i x0 y0 ks h1 h2
            cases he:ZhC ks b with
            | true=>rw[he] at h;cases h
            | false=>
              rw[he] at h
              simp only[cF] at h
              cases hc:(Nat.beq y0.cells.length n&&Nat.ble (k+n) x0.cells.length&&(V.d y0).okb&&(x0.isAgg || !y0.isAgg)) with
              | false=>rw[hc] at h;cases h
              | true=>
                rw[hc] at h
                simp only[cT,sJ,pJ] at h
                obtain⟨rfl,rfl,_⟩:=h
                cases ks with
                | nil=>exact .inr ⟨_,_,.arr sz xs,rfl,by rw[<- ZI];exact hb,rfl,by rw[Zah];simp⟩
                | cons a r=>simp[Zv3] at hu
          · cases h
      · cases h
    · cases h
  · simp only[opE] at h
    unfold ZgN at h
    split at h
    · cases h
    · rename_i ys hy
      cases hz:Zjz sz ys 0 with
      | false=>rw[hz] at h;cases h
      | true=>
        rw[hz] at h
        simp only[cT] at h
        split at h
        · cases hl:Nat.ble ys.length lim with
          | false=>rw[hl] at h;cases h
          | true=>rw[hl] at h;cases h
        · rename_i b sz' _
          split at h
          · rename_i sz'' xs hb
            cases hc:(Nat.beq sz sz'&&Nat.beq sz sz'') with
            | false=>rw[hc] at h;cases h
            | true=>
              rw[hc] at h
              simp only[cT] at h
              cases hl:Nat.ble (xs.length+ys.length) lim with
              | false=>rw[hl] at h;cases h
              | true=>rw[hl] at h;cases h
          · cases h
        · rename_i b sz' o len _
          split at h
          · rename_i sz'' xs hb
            cases hc:(Nat.beq sz sz'&&Nat.beq sz sz''&&Nat.ble (o+len+ys.length) xs.length) with
            | false=>rw[hc] at h;cases h
            | true=>
              rw[hc] at h
              simp only[cT,sJ,pJ] at h
              obtain⟨rfl,rfl,_⟩:=h
              simp only[aT,ble_eq] at hc
              obtain⟨⟨c1,c2⟩,c3⟩:=hc
              refine .inr ⟨_,_,.arr sz'' xs,rfl,by rw[<- ZI];exact hb,(nQ c2).symm,?_⟩
              simp only[lA,length_take,length_drop]
              omega
          · cases h
        · cases h
theorem Zo4 {e:Env}{H:Zi}{o:Op1}{up:List (Nat×Blk)}{nw:List Blk} (h:Zq6 e H o up nw=true):Zq9 o.eff up nw=true/\ZG4 e H up o.op=true:=by
  unfold Zq6 at h
  rwa [aT] at h
def Zbr.len (t:Zbr) (j:Nat):Nat:=(t.HH j).length
theorem Zpp {p:Op1}:(Z0 p<=2↔(p.eff=0∨p.eff=1))/\(Z0 p=3↔p.eff=3):=by
  unfold Z0
  split
  · rename_i h
    rw[h]
    cases Zzx p.op<;>cases ZyH p.op<;>simp
  · rename_i h;rw[h];simp
  · rename_i h;rw[h];simp
  · rename_i h0 h1 h3
    constructor
    · simp;exact⟨h0,h1⟩
    · simp;exact h3
theorem Zvh {p:Op1} (h:p.eff=1):Z0 p=1:=by unfold Z0;simp only[h]
theorem Ztp {p:Op1} (h:Z0 p<=1):(Z0 p=0/\Zzx p.op=true)∨(Z0 p=1/\ZyH p.op=true/\p.eff≠1)∨(Z0 p=1/\p.eff=1):=by
  rcases(Zpp (p:=p)).1.1 (by omega) with h0 | h0
  · unfold Z0 at h ⊢
    rw[h0] at h ⊢
    cases h1:Zzx p.op<;>cases h2:ZyH p.op<;>simp_all
  · exact .inr (.inr ⟨Zvh h0,h0⟩)
def ZC7:V->Option Nat
  | .ptr b _=>some b
  | .eptr b _ _ _=>some b
  | _=>none
theorem Zme {H H':Zi}{n:Nat}{ag:Bool}{x v:V} (h:Zb5 H n ag x=some v) (hs:∀b,ZC7 x=some b->∀blk,H[b]? = some blk->blk ≠ .dead->H'[b]? = some blk):Zb5 H' n ag x=some v:=by
  cases x<;>try exact h
  · rename_i d
    cases d<;>exact h
  · rename_i b o
    unfold Zb5 at h ⊢
    simp only[ZI] at h ⊢
    cases hb:H[b]? with
    | none=>rw[hb] at h;cases h
    | some blk=>
      rw[hb] at h
      cases blk<;>try (cases h;done)
      rw[hs b rfl _ hb (by simp)];exact h
  · rename_i b sz i k
    unfold Zb5 at h ⊢
    simp only[ZI] at h ⊢
    cases hb:H[b]? with
    | none=>rw[hb] at h;cases h
    | some blk=>
      rw[hb] at h
      cases blk<;>try (cases h;done)
      rw[hs b rfl _ hb (by simp)];exact h
theorem ZyP {H:Zi}{n:Nat}{ag:Bool}{x v:V}{b:Nat} (h:Zb5 H n ag x=some v) (hx:ZC7 x=some b):∃blk,H[b]? = some blk/\blk ≠ .dead:=by
  cases x<;>try (cases hx;done)
  · rename_i b' o
    cases hx
    unfold Zb5 at h
    simp only[ZI] at h
    cases hb:H[b]? with
    | none=>rw[hb] at h;cases h
    | some blk=>
      rw[hb] at h
      cases blk<;>try (cases h;done)
      exact⟨_,rfl,by simp⟩
  · rename_i b' sz i k
    cases hx
    unfold Zb5 at h
    simp only[ZI] at h
    cases hb:H[b]? with
    | none=>rw[hb] at h;cases h
    | some blk=>
      rw[hb] at h
      cases blk<;>try (cases h;done)
      exact⟨_,rfl,by simp⟩
theorem ZuV:∀{up:List (Nat×Blk)}{H:Zi}{b:Nat},Zp9 up b=false->(Zbc H up)[b]? = H[b]?
  | [],_,_,_=>rfl
  | (a,blk) :: r,H,b,h=>by
    simp only[Zp9] at h
    cases hb:Nat.beq a b with
    | true=>rw[hb] at h;cases h
    | false=>
      rw[hb] at h
      show(Zbc (ZbL H a blk) r)[b]? = _
      rw[ZuV (up:=r) h,Zah,List.getElem?_set_ne (fun e=>by subst e;rw[beq_refl] at hb;cases hb)]
theorem Zri {e:Env}{up:List (Nat×Blk)}{s:Nat}:∀{l:List Opd},ZpD e up l=true->ZvQ l s=true->∀b,ZC7 (e s)=some b->Zp9 up b=false
  | [],_,hs=>by cases hs
  | .c v :: l,h,hs=>by
    simp only[ZpD,aT] at h
    exact Zri (l:=l) h.2 hs
  | .t i :: l,h,hs=>by
    simp only[ZpD,aT] at h
    simp only[ZvQ,Bool.or_eq_true] at hs
    rcases hs with hs | hs
    · obtain rfl:=nQ hs
      have h1:=h.1
      intro b hb
      change (match e i with
        | .ptr b _=>!(Zp9 up b)
        | .eptr b _ _ _=>!(Zp9 up b)
        | .d _=>true
        | _=>false)=true at h1
      cases hx:e i<;>rw[hx] at h1 hb<;>simp only[ZC7,sJ] at hb<;>first | (subst hb;simpa using h1) | cases hb
    · exact Zri (l:=l) h.2 hs
theorem Zv7 {e:Env}{H H':Zi}{s:Nat}:∀{l:List Opd},Zy3 e H H' l=true->ZvQ l s=true->∃i,Zb5 H 1 false (e s)=some (.mp i)/\Zb5 H' 1 false (e s)=some (.mp i)
  | [],_,hs=>by cases hs
  | .c v :: l,h,hs=>by
    simp only[Zy3,aT] at h
    exact Zv7 (l:=l) h.2 hs
  | .t i :: l,h,hs=>by
    simp only[Zy3,aT] at h
    simp only[ZvQ,Bool.or_eq_true] at hs
    rcases hs with hs | hs
    · obtain rfl:=nQ hs
      have h1:=h.1
      change (match e i with
        | .ptr b o=>(match Zb5 H 1 false (.ptr b o),Zb5 H' 1 false (.ptr b o) with | some (.mp i),some (.mp j)=>Nat.beq i j | _,_=>false)
        | _=>false)=true at h1
      split at h1
      · rename_i b o hx
        rw[hx]
        split at h1
        · rename_i i1 j1 e1 e2
          rw[e1,e2,nQ h1]
          exact⟨_,rfl,rfl⟩
        · cases h1
      · cases h1
    · exact Zv7 (l:=l) h.2 hs
section
variable {P:Program} {G:Z1} {N:Nat} {Γ:Ctx} {cf:Zac} {t:Zbr} {l:List Op1} {e:Env} {H:Zi} {e':Env} {H':Zi} {os:Array Oper} {B:Nat->Nat->Prop} {D:Nat->Bool}
theorem Zbr.OK.len_succ (ht:t.OK Γ cf [] l e H e' H') {j:Nat} (hj:j<l.length):t.len (j+1)=t.len j+(t.NW j).length:=by
  unfold Zbr.len
  rw[ht.h j _ (gE hj),lA,ZlK]
theorem Zbr.OK.len_mono (ht:t.OK Γ cf [] l e H e' H') {a:Nat}:∀(b:Nat),a<=b->b<=l.length->t.len a<=t.len b:=by
  intro b
  induction b with
  | zero => intro h _; have : a = 0 := by omega
            subst this;exact Nat.le_refl _
  | succ b ih=>
    intro h hb
    by_cases hab:a=b+1
    · subst hab;exact Nat.le_refl _
    · have h1:=ih (by omega) (by omega)
      have h2:=ht.len_succ (j:=b) (by omega)
      omega
theorem Zbr.OK.whose (ht:t.OK Γ cf [] l e H e' H') {a i:Nat}:∀(b:Nat),a<=b->b<=l.length->t.len a<=i->i<t.len b->∃j,a<=j/\j<b/\t.len j<=i/\i<t.len (j+1):=by
  intro b
  induction b with
  | zero => intro h _ h1 h2; have : a = 0 := by omega
            subst this;omega
  | succ b ih=>
    intro h hb h1 h2
    by_cases hab:a=b+1
    · subst hab;omega
    · by_cases hi:i<t.len b
      · obtain⟨j,g1,g2,g3⟩:=ih (by omega) (by omega) h1 hi
        exact⟨j,g1,by omega,g3⟩
      · exact⟨b,by omega,by omega,by omega,h2⟩
theorem Zbr.OK.one (ht:t.OK Γ cf [] l e H e' H') {i j k:Nat} (hj:j<l.length) (hk:k<l.length) (h1:t.len j<=i/\i<t.len (j+1)) (h2:t.len k<=i/\i<t.len (k+1)):j=k:=by
  rcases Nat.lt_trichotomy j k with h | h | h
  · have:=ht.len_mono (a:=j+1) k (by omega) (by omega);omega
  · exact h
  · have:=ht.len_mono (a:=k+1) j (by omega) (by omega);omega
theorem Zbr.OK.noUp (ht:t.OK Γ cf [] l e H e' H') {j:Nat}{p:Op1} (hp:l[j]? = some p) (hc:Z0 p<=2):t.UP j=[]:=by
  cases hw:t.W j with
  | false=>exact(ht.n j p hp hw).2.1
  | true=>
    have:=(Zo4 (ht.y j p hp hw).2).1
    rcases(Zpp (p:=p)).1.1 hc with h | h
    · rw[h] at this;simpa [Zq9] using this
    · rw[h] at this
      simp only[Zq9,aT,List.isEmpty_iff] at this
      exact this.1
theorem Zbr.OK.noNew (ht:t.OK Γ cf [] l e H e' H') {j:Nat}{p:Op1} (hp:l[j]? = some p) (hc:Z0 p<=1):t.NW j=[]:=by
  cases hw:t.W j with
  | false=>exact(ht.n j p hp hw).2.2
  | true=>
    rcases Ztp hc with h | h | h
    · exact ZuP (.inl h.2) (ht.y j p hp hw).1
    · exact ZuP (.inr h.2.1) (ht.y j p hp hw).1
    · have:=(Zo4 (ht.y j p hp hw).2).1
      rw[h.2] at this
      simp only[Zq9,aT,List.isEmpty_iff] at this
      exact this.2
theorem Zbr.OK.new2 (ht:t.OK Γ cf [] l e H e' H') {i j:Nat}{p:Op1} (hp:l[j]? = some p) (h:t.len j<=i/\i<t.len (j+1)):2<=Z0 p:=by
  have hj:=(gQ hp).1
  rcases lt_or_ge (Z0 p) 2 with h' | h'
  · have:=ht.len_succ hj
    rw[ht.noNew hp (by omega)] at this
    simp at this
    omega
  · exact h'
theorem Zbr.OK.stay1 (ht:t.OK Γ cf [] l e H e' H') {j:Nat}{p:Op1} (hp:l[j]? = some p) (hc:Z0 p<=2):t.HH (j+1)=t.HH j++t.NW j:=by
  rw[ht.h j p hp,ht.noUp hp hc];rfl
theorem Zbr.OK.stay (ht:t.OK Γ cf [] l e H e' H') {a:Nat}:∀(b:Nat),a<=b->b<=l.length->(∀m p,a<=m->m<b->l[m]? = some p->Z0 p<=2)->∀i,i<t.len a->(t.HH b)[i]? = (t.HH a)[i]?:=by
  intro b
  induction b with
  | zero => intro h _ _ i _; have : a = 0 := by omega
            subst this;rfl
  | succ b ih=>
    intro h hb hc i hi
    by_cases hab:a=b+1
    · subst hab;rfl
    · have hp:l[b]? = some (l[b]'(by omega)):=gE (by omega)
      have hm:=ht.len_mono (a:=a) b (by omega) (by omega)
      rw[ht.stay1 hp (hc b _ (by omega) (by omega) hp),List.getElem?_append_left (by unfold Zbr.len at *;omega)]
      exact ih (by omega) (by omega) (fun m p h1 h2=>hc m p h1 (by omega)) i hi
theorem Zbr.OK.like1 (ht:t.OK Γ cf [] l e H e' H') (hk:Chk P G N os l B) {j:Nat}{p:Op1} (hp:l[j]? = some p) (hc:Z0 p<=3) {i:Nat} (hi:i<t.len j):∃x y,(t.HH j)[i]? = some x/\(t.HH (j+1))[i]? = some y/\(x=y∨x.like y):=by
  have same:t.UP j=[]->∃x y,(t.HH j)[i]? = some x/\(t.HH (j+1))[i]? = some y/\(x=y∨x.like y):=fun hu=>by
    refine⟨_,_,gE hi,?_,.inl rfl⟩
    rw[ht.h j p hp,hu]
    show(t.HH j++t.NW j)[i]? = _
    rw[List.getElem?_append_left hi]
    exact gE hi
  rcases lt_or_ge (Z0 p) 3 with h | h
  · exact same (ht.noUp hp (by omega))
  · have he:=(Zpp (p:=p)).2.1 (by omega)
    cases hw:t.W j with
    | false=>exact same (ht.n j p hp hw).2.1
    | true=>
      obtain⟨y1,y2⟩:=ht.y j p hp hw
      rw[hk.mask j p hp h] at y1
      have y2:=(Zo4 y2).1
      rw[he] at y2
      have hs:(∃n x y,p.op = .store n x y∨∃k,p.op = .storek n x y k)∨∃sz x y,p.op = .append sz x y:=by
        have:=hk.eff3 j p hp
        unfold Zwt at this
        rw[he] at this
        cases hop:p.op<;>rw[hop] at this<;>first | (cases this;done) | exact .inl ⟨_,_,_,.inl rfl⟩ | exact .inl ⟨_,_,_,.inr ⟨_,rfl⟩⟩ | exact .inr ⟨_,_,_,rfl⟩
      obtain⟨f1,f2⟩:=Zzv hs y1 y2
      rcases f2 with f2 | ⟨b,blk,old,f2,f3,f4⟩
      · exact same f2
      · by_cases hbi:b=i
        · subst hbi
          refine⟨old,blk,f3,?_,.inr f4⟩
          rw[ht.h j p hp,f1,f2]
          simp only[Zbc,append_nil,Zah]
          rw[List.getElem?_set,if_pos rfl,if_pos (show b<(t.HH j).length from hi)]
        · refine⟨_,_,gE hi,?_,.inl rfl⟩
          rw[ht.h j p hp,f1,f2]
          simp only[Zbc,append_nil,Zah]
          rw[List.getElem?_set,if_neg hbi]
          exact gE hi
theorem Zbr.OK.like (ht:t.OK Γ cf [] l e H e' H') (hk:Chk P G N os l B) {a:Nat}:∀(b:Nat),a<=b->b<=l.length->(∀m p,a<=m->m<b->l[m]? = some p->Z0 p<=3)->∀i,i<t.len a->∃x y,(t.HH a)[i]? = some x/\(t.HH b)[i]? = some y/\(x=y∨x.like y):=by
  intro b
  induction b with
  | zero => intro h _ _ i hi; have : a = 0 := by omega
            subst this;exact⟨_,_,gE hi,gE hi,.inl rfl⟩
  | succ b ih=>
    intro h hb hc i hi
    by_cases hab:a=b+1
    · subst hab;exact⟨_,_,gE hi,gE hi,.inl rfl⟩
    · have hp:l[b]? = some (l[b]'(by omega)):=gE (by omega)
      have hm:=ht.len_mono (a:=a) b (by omega) (by omega)
      obtain⟨x,y,h1,h2,h3⟩:=ih (by omega) (by omega) (fun m p h1 h2=>hc m p h1 (by omega)) i hi
      obtain⟨y',z,g1,g2,g3⟩:=ht.like1 hk hp (hc b _ (by omega) (by omega) hp) (i:=i) (by omega)
      rw[h2] at g1
      cases g1
      refine⟨x,z,h1,g2,?_⟩
      rcases h3 with rfl | h3
      · exact g3
      · rcases g3 with rfl | g3
        · exact .inr h3
        · exact .inr (Blk.like_trans h3 g3)
theorem Zbr.OK.env0 (ht:t.OK Γ cf [] l e H e' H') {x:Nat}:∀(j:Nat),j<=l.length->(∀i p,i<j->l[i]? = some p->p.dst≠some x)->t.E j x=e x:=by
  intro j
  induction j with
  | zero=>intro _ _;rw[ht.e0]
  | succ j ih=>
    intro hj hn
    have hp:l[j]? = some (l[j]'(by omega)):=gE (by omega)
    rw[ht.e j _ hp]
    have h1:=hn j _ (by omega) hp
    have h2:=ih (by omega) (fun i p hi=>hn i p (by omega))
    cases hd:(l[j]'(by omega)).dst with
    | none=>exact h2
    | some d=>
      rw[hd] at h1
      show(bif Nat.beq d x then t.VV j else t.E j x)=e x
      have:Nat.beq d x=false:=by
        cases hb:Nat.beq d x with
        | false=>rfl
        | true=>exact absurd (congrArg some (nQ hb)) h1
      rw[this];exact h2
theorem Zbr.OK.envd (ht:t.OK Γ cf [] l e H e' H') (hk:Chk P G N os l B) {i x:Nat}{p:Op1} (hp:l[i]? = some p) (hd:p.dst=some x):∀(j:Nat),i<j->j<=l.length->t.E j x=t.VV i:=by
  intro j
  induction j with
  | zero=>intro h;omega
  | succ j ih=>
    intro hij hj
    have hq:l[j]? = some (l[j]'(by omega)):=gE (by omega)
    rw[ht.e j _ hq]
    by_cases h:i=j
    · subst h
      rw[hp] at hq
      cases hq
      rw[hd]
      show(bif Nat.beq x x then t.VV i else _)=_
      rw[beq_refl];rfl
    · have h2:=ih (by omega) (by omega)
      cases hd':(l[j]'(by omega)).dst with
      | none=>exact h2
      | some d=>
        show(bif Nat.beq d x then t.VV j else t.E j x)=_
        have:Nat.beq d x=false:=by
          cases hb:Nat.beq d x with
          | false=>rfl
          | true=>
            obtain rfl:=nQ hb
            exact absurd (hk.dst i j p _ d hp hq hd hd') h
        rw[this];exact h2
theorem Zbr.OK.envs (ht:t.OK Γ cf [] l e H e' H') (hk:Chk P G N os l B) {j x:Nat}{q:Op1} (hq:l[j]? = some q) (he:q.eff=1) (hx:x∈Zb6 q):∀(k:Nat),j<=k->k<=l.length->t.E k x=t.E j x:=by
  intro k
  induction k with
  | zero => intro h _; have : j = 0 := by omega
            subst this;rfl
  | succ k ih=>
    intro hjk hk'
    by_cases h:j=k+1
    · subst h;rfl
    · have hp:l[k]? = some (l[k]'(by omega)):=gE (by omega)
      have h2:=ih (by omega) (by omega)
      rw[ht.e k _ hp]
      cases hd:(l[k]'(by omega)).dst with
      | none=>exact h2
      | some d=>
        show(bif Nat.beq d x then t.VV k else t.E k x)=_
        have:Nat.beq d x=false:=by
          cases hb:Nat.beq d x with
          | false=>rfl
          | true=>
            obtain rfl:=nQ hb
            exact absurd hx (hk.stay k j _ q d hp hq he (by omega) hd)
        rw[this];exact h2
theorem Chk.lt (hk:Chk P G N os l B):∀(j i:Nat),j<l.length->B i j->i<j:=by
  intro j
  induction j using Nat.strongRecOn with
  | ind j ih=>
    intro i hj hb
    obtain⟨k,h1,h2⟩:=hk.bef j _ i (Array.getElem?_eq_getElem (by rw[hk.len];exact hj)) hb
    have h3:=hk.pre j _ (Array.getElem?_eq_getElem (by rw[hk.len];exact hj)) k h1
    rcases h2 with rfl | ⟨h4,h5⟩
    · exact h3
    · have:=ih k h4 i (by omega) h5;omega
def ZqG (os:Array Oper) (D:Nat->Bool):Prop:=∀(j:Nat) o,os[j]? = some o->D j=true->∀i∈Zpg o,D i=true
theorem Chk.down (hk:Chk P G N os l B) (hD:ZqG os D):∀(j i:Nat) o,os[j]? = some o->(∀k∈Zpg o,D k=true)->B i j->D i=true:=by
  intro j
  induction j using Nat.strongRecOn with
  | ind j ih=>
    intro i o ho hp hb
    obtain⟨k,h1,h2⟩:=hk.bef j o i ho hb
    rcases h2 with rfl | ⟨h4,h5⟩
    · exact hp _ h1
    · have hk':k<os.size:=by
        have:=(Array.getElem?_eq_some_iff.1 ho).1;omega
      exact ih k h4 i _ (Array.getElem?_eq_getElem hk') (fun m hm=>hD k _ (Array.getElem?_eq_getElem hk') (hp k h1) m hm) h5
theorem Chk.downD (hk:Chk P G N os l B) (hD:ZqG os D) {i j:Nat} (hj:j<l.length) (h:D j=true) (hb:B i j):D i=true:=
  hk.down hD j i _ (Array.getElem?_eq_getElem (by rw[hk.len];exact hj)) (hD j _ (Array.getElem?_eq_getElem (by rw[hk.len];exact hj)) h) hb
theorem Chk.order (hk:Chk P G N os l B) {i j:Nat}{p q:Op1} (hp:l[i]? = some p) (hq:l[j]? = some q) (hc:3<=Z0 p) (hc2:2<=Z0 q):i=j∨(i<j/\B i j)∨(j<i/\B j i):=by
  have hi:=(gQ hp).1
  have hj:=(gQ hq).1
  rcases hk.pair i j p q hp hq hc with h | h | h | h | h | h
  · exact .inl h
  · exact .inr (.inl ⟨hk.lt j i hj h,h⟩)
  · exact .inr (.inr ⟨hk.lt i j hi h,h⟩)
  · omega
  · omega
  · have:=Zvh h.1;omega
def hid (t:Zbr) (D:Nat->Bool) (K i:Nat):Bool:=(List.range K).any fun j=>!(D j)&&(decide (t.len j<=i)&&decide (i<t.len (j+1)))
def Zje (t:Zbr) (D:Nat->Bool) (K:Nat):Zi:=(t.HH K).mapIdx fun i b=>bif hid t D K i then .dead else b
theorem Zt1 {K i:Nat}:hid t D K i=true↔∃j,j<K/\D j=false/\t.len j<=i/\i<t.len (j+1):=by
  unfold hid
  simp[any_eq_true]
theorem Zkz {K i:Nat}:hid t D K i=false↔∀j,j<K->t.len j<=i->i<t.len (j+1)->D j=true:=by
  rw[<- Bool.not_eq_true,Zt1]
  constructor
  · intro h j h1 h2 h3
    cases hd:D j with
    | true=>rfl
    | false=>exact absurd ⟨j,h1,hd,h2,h3⟩ h
  · rintro h ⟨j,h1,h2,h3,h4⟩
    rw[h j h1 h3 h4] at h2;cases h2
theorem Zmq {K i:Nat}:(Zje t D K)[i]? = ((t.HH K)[i]?).map fun b=>bif hid t D K i then .dead else b:=by
  unfold Zje
  rw[List.getElem?_mapIdx]
theorem Zwx {K i:Nat}{blk:Blk} (h:(Zje t D K)[i]? = some blk) (hd:blk ≠ .dead):(t.HH K)[i]? = some blk/\hid t D K i=false:=by
  rw[Zmq] at h
  cases hb:(t.HH K)[i]? with
  | none=>rw[hb] at h;cases h
  | some b=>
    rw[hb] at h
    simp only[map_some,sJ] at h
    cases hh:hid t D K i with
    | true=>rw[hh] at h;exact absurd h.symm hd
    | false=>rw[hh] at h;exact⟨by rw[<- h];rfl,rfl⟩
theorem Zgr {K i:Nat} (h:hid t D K i=false):(Zje t D K)[i]? = (t.HH K)[i]?:=by
  rw[Zmq,h]
  cases (t.HH K)[i]?<;>rfl
theorem ZCd (l:List Op1) (a:Nat) (ha:a<=l.length):∃K,a<=K/\K<=l.length/\(∀m p,a<=m->m<K->l[m]? = some p->Z0 p<=2)/\(K<l.length->∃p,l[K]? = some p/\3<=Z0 p):=by
  have key:∀n a,l.length-a=n->a<=l.length->∃K,a<=K/\K<=l.length/\(∀m p,a<=m->m<K->l[m]? = some p->Z0 p<=2)/\(K<l.length->∃p,l[K]? = some p/\3<=Z0 p):=by
    intro n
    induction n with
    | zero=>intro a h1 h2;exact⟨a,Nat.le_refl _,h2,fun m p h3 h4=>by omega,fun h=>by omega⟩
    | succ n ih=>
      intro a h1 h2
      have hp:l[a]? = some (l[a]'(by omega)):=gE (by omega)
      rcases lt_or_ge (Z0 (l[a]'(by omega))) 3 with h | h
      · obtain⟨K,g1,g2,g3,g4⟩:=ih (a+1) (by omega) (by omega)
        refine⟨K,by omega,g2,fun m p h3 h4 h5=>?_,g4⟩
        by_cases hm:m=a
        · subst hm;rw[hp] at h5;cases h5;omega
        · exact g3 m p (by omega) h4 h5
      · exact⟨a,Nat.le_refl _,h2,fun m p h3 h4=>by omega,fun _=>⟨_,hp,h⟩⟩
  exact key _ a rfl ha
end
end
section
theorem Zvy {e e':Env}:∀(g:Option (Nat×Bool)),(∀s b,g=some (s,b)->e s=e' s)->Zb2 e g=Zb2 e' g
 | none,_=>rfl
 | some (s,b),h=>by simp only[Zb2,h s b rfl]
section
variable {P:Program} {G:Z1} {N:Nat} {Γ:Ctx} {cf:Zac} {t:Zbr} {l:List Op1} {e:Env} {H:Zi} {e':Env} {H':Zi} {os:Array Oper} {B:Nat->Nat->Prop} {Rf:RP} {wf:World}
structure ZyU (P:Program) (N:Nat) (t:Zbr) (l:List Op1) (os:Array Oper) (e:Env) (H:Zi) (Rf:RP) (wf:World) (D:Nat->Bool) (a:Act) (w:World):Prop where
 closed:ZqG os D
 ex:∃K R env,K<=l.length/\(∀m p,l[m]? = some p->m<K->3<=Z0 p->D m=true)/\(K<l.length->∃p,l[K]? = some p/\3<=Z0 p/\D K=false) /\
  Ext Rf wf R w/\R.OK w/\R.H=Zje t D K/\(∀i,H.length<=i->(∀j,j<l.length->D j=true->¬(t.len j<=i/\i<t.len (j+1)))->R.M i=none)/\Zgj R w env a /\
  (∀j p d,l[j]? = some p->p.dst=some d->D j=true->env d=t.VV j)/\(∀d,(∀j p,l[j]? = some p->p.dst=some d->D j=false)->env d=e d)
 tm:N<=a.tmps.size
 df:a.defers=[]
theorem ZzZ (ht:t.OK Γ cf [] l e H e' H') {D:Nat->Bool}{s:Nat}{R:RP}{w:World} (hs:s<=l.length) (ok:R.OK w) (hH:R.H=t.HH s) (hb:∀m p,l[m]? = some p->m<s->2<=Z0 p->D m=true) (ha:∀m p,l[m]? = some p->s<=m->2<=Z0 p->D m=false) :
  ∃K,K<=l.length/\(∀m p,l[m]? = some p->m<K->3<=Z0 p->D m=true)/\(K<l.length->∃p,l[K]? = some p/\3<=Z0 p/\D K=false)/\Ext R w { R with H:=Zje t D K } w/\RP.OK { R with H:=Zje t D K } w:=by
 obtain⟨K,h1,h2,h3,h4⟩:=ZCd l s hs
 have live:∀(i:Nat) blk,(Zje t D K)[i]? = some blk->blk ≠ .dead->R.H[i]? = some blk:=fun i blk h hd=>by
  obtain⟨g1,g2⟩:=Zwx h hd
  rw[Zkz] at g2
  have hiK:i<t.len K:=(gQ g1).1
  by_cases hi:i<t.len s
  ·rw[hH,<- ht.stay K h1 h2 h3 i hi];exact g1
  ·obtain⟨j,f1,f2,f3,f4⟩:=ht.whose K h1 h2 (by omega) hiK
   have hp:l[j]? = some (l[j]'(by omega)):=gE (by omega)
   have d1:=ha j _ hp f1 (ht.new2 hp ⟨f3,f4⟩)
   rw[g2 j f2 f3 f4] at d1;cases d1
 refine⟨K,h2,fun m p hp hm hc=>?_,fun hK=>?_,Ext.kill live,ok.kill live⟩
 ·rcases lt_or_ge m s with h | h
  ·exact hb m p hp h (by omega)
  ·have:=h3 m p h hm hp;omega
 ·obtain⟨p,f1,f2⟩:=h4 hK
  exact⟨p,f1,f2,ha K p f1 h1 (by omega)⟩
def upd (D:Nat->Bool) (j:Nat):Nat->Bool:=fun i=>if i=j then true else D i
theorem step (c:ZhA P G cf Rf wf) (hlo:Rf.H.length<=H.length) (ht:t.OK Γ cf [] l e H e' H') (hk:Chk P G N os l B) {Q:Exit->Act->World->Prop}{D:Nat->Bool}{a:Act}{w:World} (s:ZyU P N t l os e H Rf wf D a w) {j:Nat}{o:Oper} (ho:os[j]? = some o) (hDj:D j=false) (hpre:∀i∈Zpg o,D i=true) :
  wpOp P os Q j (fun a' w'=>ZyU P N t l os e H Rf wf (upd D j) a' w') a w:=by
 obtain⟨K,R,env,hK,hKd,hKn,x,ok,hH,hM,hE,hV,hO⟩:=s.ex
 have hjl:j<l.length:=by rw[<- hk.len];exact(Array.getElem?_eq_some_iff.1 ho).1
 obtain⟨p,hp⟩:∃p,l[j]? = some p:=⟨_,gE hjl⟩
 have hoper:=hk.oper j o p ho hp
 simp only[ZnY,aT] at hoper
 obtain⟨k1,k2,k3⟩:=hoper
 have down:∀i,B i j->D i=true:=fun i hb=>hk.down s.closed j i o ho hpre hb
 have downD:∀i k,k<l.length->D k=true->B i k->D i=true:=fun i k h1 h2 h3=>hk.downD s.closed h1 h2 h3
 have slot:∀d,d∈Zb6 p->env d=t.E j d:=fun d hd=>by
  by_cases hx:∃(i:Nat) (q:Op1),l[i]? = some q/\q.dst=some d
  ·obtain⟨i,q,hq,hqd⟩:=hx
   have old:j<=i->D i=false->env d=t.E j d:=fun hji hDi=>by
    rw[hO d fun i' q' hq' hqd'=>by rw[hk.dst i' i q' q d hq' hq hqd' hqd];exact hDi,ht.env0 j (by omega) fun i' q' hi' hq' hqd'=>by
     have:=hk.dst i' i q' q d hq' hq hqd' hqd;omega]
   rcases hk.reads i j q p d hq hp hqd hd with hb | hb | hb
   ·rw[hV i q d hq hqd (down i hb),ht.envd hk hq hqd j (hk.lt j i hjl hb) (by omega)]
   ·have hi:=(gQ hq).1
    refine old (Nat.le_of_lt (hk.lt i j hi hb)) ?_
    cases hDi:D i with
    | false=>rfl
    | true=>have:=downD j i hi hDi hb;rw[hDj] at this;cases this
   ·subst hb;exact old (Nat.le_refl _) hDj
  ·have hn:∀(i:Nat) (q:Op1),l[i]? = some q->q.dst≠some d:=fun i q hq hqd=>hx ⟨i,q,hq,hqd⟩
   rw[hO d fun i q hq hqd=>absurd hqd (hn i q hq),ht.env0 j (by omega) fun i q _ hq=>hn i q hq]
 have hg:Zb2 env p.guard=some (t.W j):=by
  rw[<- ht.w j p hp]
  refine Zvy _ fun s' b hs=>slot s' ?_
  unfold Zb6
  rw[hs];simp
 have hwant:=ZoV (a:=a) hE k2 hg
 have hop:∀nid Hm,opE Γ cf env nid Hm p.op=opE Γ cf (t.E j) nid Hm p.op:=fun nid Hm=>by
  refine Zy7 _ fun y hy=>?_
  cases y with
  | c v=>rfl
  | t i=>
   refine slot i ?_
   unfold Zb6
   exact List.mem_append_left _ (List.mem_filterMap.2 ⟨.t i,hy,rfl⟩)
 have closed':ZqG os (upd D j):=fun k o' hk' hd i hi=>by
  unfold upd at hd ⊢
  by_cases hik:i=j
  ·rw[if_pos hik]
  ·rw[if_neg hik]
   by_cases hkj:k=j
   ·subst hkj;rw[ho] at hk';cases hk';exact hpre i hi
   ·rw[if_neg hkj] at hd;exact s.closed k o' hk' hd i hi
 have fin:∀(K':Nat) (R':RP) (u:Value) (w':World),K'<=l.length->(∀m p,l[m]? = some p->m<K'->3<=Z0 p->upd D j m=true)->(K'<l.length->∃p,l[K']? = some p/\3<=Z0 p/\upd D j K'=false) ->
   Ext R w R' w'->R'.OK w'->R'.H=Zje t (upd D j) K'->(∀i,R.M i=none->¬(t.len j<=i/\i<t.len (j+1))->R'.M i=none)->Z5 R' w' (t.VV j) u->ZyU P N t l os e H Rf wf (upd D j) (a.put o.dst u) w':=by
  intro K' R' u w' hK' hKd' hKn' x' ok' hH' hM' hv
  refine⟨closed',⟨K',R',Zlp env p.dst (t.VV j),hK',hKd',hKn',x.trans x',ok',hH',fun i hi hni=>?_,Zn7 (x'.envOK ok.b01 hE) k1 s.tm hv,fun i q d hq hqd hd=>?_,fun d hd=>?_⟩,by rw[Zq7];exact s.tm,by rw[ZrZ];exact s.df⟩
  ·refine hM' i (hM i hi fun m hm hd=>hni m hm ?_) (hni j hjl ?_)
   ·unfold upd;split
    ·rfl
    ·exact hd
   ·unfold upd;rw[if_pos rfl]
  ·cases hpd:p.dst with
   | none=>
    show env d=_
    have hij:i≠j:=fun h=>by subst h;rw[hp] at hq;cases hq;rw[hpd] at hqd;cases hqd
    refine hV i q d hq hqd ?_
    unfold upd at hd;rw[if_neg hij] at hd;exact hd
   | some d'=>
    show(bif Nat.beq d' d then t.VV j else env d)=_
    cases hb:Nat.beq d' d with
    | true=>
     obtain rfl:=nQ hb
     obtain rfl:=hk.dst i j q p d' hq hp hqd hpd
     rfl
    | false=>
     have hij:i≠j:=fun h=>by
      subst h;rw[hp] at hq;cases hq;rw[hpd] at hqd;cases hqd;rw[beq_refl] at hb;cases hb
     refine hV i q d hq hqd ?_
     unfold upd at hd;rw[if_neg hij] at hd;exact hd
  ·have h0:env d=e d:=hO d fun i q hq hqd=>by
    have:=hd i q hq hqd
    unfold upd at this
    by_cases hij:i=j
    ·rw[if_pos hij] at this;cases this
    ·rw[if_neg hij] at this;exact this
   cases hpd:p.dst with
   | none=>exact h0
   | some d'=>
    show(bif Nat.beq d' d then t.VV j else env d)=_
    cases hb:Nat.beq d' d with
    | false=>exact h0
    | true=>
     obtain rfl:=nQ hb
     have:=hd j p hp hpd
     unfold upd at this;rw[if_pos rfl] at this;cases this
 have hlen:=ht.len_succ hjl
 have own:∀i m,m<l.length->(t.len m<=i/\i<t.len (m+1))->(t.len j<=i/\i<t.len (j+1))->m=j:=fun i m hm h1 h2=>ht.one hm hjl h1 h2
 have base:H.length<=t.len j:=by
  have:=ht.len_mono (a:=0) j (by omega) (by omega)
  unfold Zbr.len at this ⊢;rw[ht.h0] at this;exact this
 have free:∀i,t.len j<=i->i<t.len j+(t.NW j).length->R.M i=none:=fun i h1 h2=>hM i (by omega) fun m hm hd h=>by
  have:=own i m hm h ⟨h1,by omega⟩
  subst this;rw[hDj] at hd;cases hd
 rcases lt_or_ge (Z0 p) 3 with hc | hc
 ·
  have hKd':∀m p,l[m]? = some p->m<K->3<=Z0 p->upd D j m=true:=fun m p' h1 h2 h3=>by
   unfold upd;split
   ·rfl
   ·exact hKd m p' h1 h2 h3
  have hKn':K<l.length->∃p,l[K]? = some p/\3<=Z0 p/\upd D j K=false:=fun h=>by
   obtain⟨q,h1,h2,h3⟩:=hKn h
   refine⟨q,h1,h2,?_⟩
   unfold upd;rw[if_neg (fun h=>by subst h;rw[hp] at h1;cases h1;omega)];exact h3
  have two:2<=Z0 p->j<K/\∀m q,j<=m->m<K->l[m]? = some q->Z0 q<=2:=fun h2=>by
   constructor
   ·rcases lt_or_ge j K with h | h
    ·exact h
    ·obtain⟨q,g1,g2,g3⟩:=hKn (by omega)
     rcases hk.order g1 hp g2 h2 with f | f | f
     ·subst f;rw[hp] at g1;cases g1;omega
     ·rw[down K f.2] at g3;cases g3
     ·omega
   ·intro m q h3 h4 hq
    rcases lt_or_ge (Z0 q) 3 with h | h
    ·omega
    ·rcases hk.order hq hp h h2 with f | f | f
     ·subst f;rw[hp] at hq;cases hq;omega
     ·omega
     ·have:=downD j m (by omega) (hKd m q hq h4 h) f.2
      rw[hDj] at this;cases this
  have stg:∀i,(Zje t (upd D j) K)[i]? = if t.len j<=i/\i<t.len j+(t.NW j).length then (t.NW j)[i-t.len j]? else (Zje t D K)[i]?:=fun i=>by
   by_cases hi:t.len j<=i/\i<t.len j+(t.NW j).length
   ·rw[if_pos hi]
    have h2:=ht.new2 hp (i:=i) ⟨hi.1,by omega⟩
    obtain⟨t1,t2⟩:=two h2
    rw[Zgr]
    ·rw[ht.stay (a:=j+1) K (by omega) hK (fun m q h3 h4 hq=>t2 m q (by omega) h4 hq) i (by omega),ht.stay1 hp (by omega),List.getElem?_append_right hi.1]
     rfl
    ·rw[Zkz]
     intro m hm h3 h4
     have:=own i m (by omega) ⟨h3,h4⟩ ⟨hi.1,by omega⟩
     unfold upd;rw[if_pos this]
   ·rw[if_neg hi,Zmq,Zmq]
    have:hid t (upd D j) K i=hid t D K i:=by
     rw[Bool.eq_iff_iff,Zt1,Zt1]
     constructor
     ·rintro ⟨m,h1,h2,h3⟩
      unfold upd at h2
      by_cases hm:m=j
      ·rw[if_pos hm] at h2;cases h2
      ·rw[if_neg hm] at h2;exact⟨m,h1,h2,h3⟩
     ·rintro ⟨m,h1,h2,h3,h4⟩
      have hm:m≠j:=fun h=>by subst h;omega
      exact⟨m,h1,by unfold upd;rw[if_neg hm];exact h2,h3,h4⟩
    rw[this]
  have hpl:t.UP j=[]:=ht.noUp hp (by omega)
  unfold wpOp
  simp only[ho]
  cases hw:t.W j with
  | false=>
   rw[hw] at hwant
   rw[hwant]
   simp only[Bool.false_eq_true,if_false]
   obtain⟨n1,n2,n3⟩:=ht.n j p hp hw
   refine fin K R undef w hK hKd' hKn' (Ext.refl R w) ok ?_ (fun i h _=>h) (by rw[n1];exact Zrv)
   rw[hH]
   apply List.ext_getElem?
   intro i
   rw[stg i,n3,if_neg (by rintro ⟨h1,h2⟩;simp at h2;omega)]
  | true=>
   rw[hw] at hwant
   rw[hwant]
   simp only[if_true]
   obtain⟨y1,y2⟩:=ht.y j p hp hw
   rw[hpl] at y1
   have see:Z0 p<=2->∀i blk,(Zga (t.HH j) ([]++t.pos j) p.mask)[i]? = some blk->blk ≠ .dead->(t.HH j)[i]? = some blk/\∀m,m<j->t.len m<=i->i<t.len (m+1)->D m=true:=fun _ i blk h hd=>by
    obtain⟨h1,h2⟩:=ZpP _ _ _ i blk h hd
    refine⟨h1,fun m hm h3 h4=>?_⟩
    have hq:l[m]? = some (l[m]'(by omega)):=gE (by omega)
    rcases hk.early m j _ p hq hp hm with f | f | f
    ·omega
    ·exact down m f
    ·have h5:=h2 m f (t.len m) (t.NW m).length (by simp[Zbr.pos,hm,Zbr.len])
     have:=ht.len_succ (j:=m) (by omega)
     omega
   have hHm:∃Hm,(∀b blk,nth Hm b=some blk->blk ≠ .dead->nth R.H b=some blk)/\opE Γ cf env (t.len j) Hm p.op=some (t.VV j,[],t.NW j):=by
    rcases lt_or_ge (Z0 p) 2 with h2 | h2
    ·rcases Ztp (p:=p) (by omega) with⟨_,h0⟩ | ⟨h01,h1,hne⟩ | ⟨h01,he1⟩
     ·refine⟨[],fun b blk hb=>by simp[nth] at hb,?_⟩
      rw[hop,ZD7 (nid':=(t.HH j).length) (H':=Zga (t.HH j) ([]++t.pos j) p.mask) h0];exact y1
     ·refine⟨R.H,fun b blk hb _=>hb,?_⟩
      rw[hop]
      refine ZD3 (H:=Zga (t.HH j) ([]++t.pos j) p.mask) (fun b blk hb hd=>?_) h1 y1
      rw[ZI] at hb
      obtain⟨g1,g2⟩:=see (by omega) b blk hb hd
      have hbj:b<t.len j:=(gQ g1).1
      have hbK:b<t.len K:=by
       rcases lt_or_ge j K with h | h
       ·have:=ht.len_mono (a:=j) K (by omega) hK;omega
       ·by_cases hb0:b<t.len 0
        ·have:=ht.len_mono (a:=0) K (by omega) hK;omega
        ·obtain⟨m,_,f2,f3,f4⟩:=ht.whose (a:=0) j (by omega) (by omega) (by omega) hbj
         have hdm:=g2 m f2 f3 f4
         have hq:l[m]? = some (l[m]'(by omega)):=gE (by omega)
         have hmK:m<K:=by
          rcases lt_or_ge m K with h' | h'
          ·exact h'
          ·obtain⟨q,q1,q2,q3⟩:=hKn (by omega)
           rcases hk.order q1 hq q2 (ht.new2 hq ⟨f3,f4⟩) with f | f | f
           ·subst f;rw[hdm] at q3;cases q3
           ·rw[downD K m (by omega) hdm f.2] at q3;cases q3
           ·omega
         have:=ht.len_mono (a:=m+1) K (by omega) hK;omega
      have hhid:hid t D K b=false:=by
       rw[Zkz]
       intro m hm h3 h4
       rcases lt_or_ge m j with h | h
       ·exact g2 m h h3 h4
       ·have:=ht.len_mono (a:=j) m h (by omega);omega
      rw[ZI,hH,Zgr hhid]
      have three:∀m q,l[m]? = some q->(j<=m/\m<K∨K<=m/\m<j)->Z0 q<=3:=fun m q hq hm=>by
       rcases lt_or_ge (Z0 q) 3 with h | h
       ·omega
       ·rcases hk.pair m j q p hq hp h with f | f | f | f | f | f
        ·subst f;rw[hp] at hq;cases hq;omega
        ·rcases hm with hm | hm
         ·have:=hk.lt j m hjl f;omega
         ·have hdm:=down m f
          obtain⟨q',q1,q2,q3⟩:=hKn (by omega)
          rcases hk.order q1 hq q2 (by omega) with g | g | g
          ·subst g;rw[hdm] at q3;cases q3
          ·rw[downD K m (by omega) hdm g.2] at q3;cases q3
          ·omega
        ·rcases hm with hm | hm
         ·have:=downD j m (by omega) (hKd m q hq hm.2 h) f
          rw[hDj] at this;cases this
         ·have:=hk.lt m j (by omega) f;omega
        ·omega
        ·omega
        ·exact absurd f.1 hne
      rcases Nat.le_total j K with h | h
      ·obtain⟨x1,y1',z1,z2,z3⟩:=ht.like hk (a:=j) K h hK (fun m q h3 h4 hq=>three m q hq (.inl ⟨h3,h4⟩)) b hbj
       rw[g1] at z1;cases z1
       exact⟨y1',z2,z3.elim (fun h=>h ▸ Blk.like_refl hd) id⟩
      ·obtain⟨x1,y1',z1,z2,z3⟩:=ht.like hk (a:=K) j h (by omega) (fun m q h3 h4 hq=>three m q hq (.inr ⟨h3,h4⟩)) b hbK
       rw[g1] at z2;cases z2
       exact⟨x1,z1,z3.elim (fun h=>by subst h;exact Blk.like_refl hd) Blk.like_symm⟩
     ·
      obtain⟨n0,ag0,s',hops,hgd⟩:∃n0 ag0 s',p.op = .load n0 ag0 (.t s')/\p.guard=none:=by
       have:=hk.eff1 j p hp
       unfold Zv9 at this
       rw[he1] at this
       change (match p.op,p.guard with | .load _ _ (.t _),none=>true | _,_=>false)=true at this
       split at this
       ·exact⟨_,_,_,by assumption,by assumption⟩
       ·cases this
      have hsl:s'∈Zb6 p:=by unfold Zb6;rw[hops];simp[ZxD,ZCu]
      have hjK:j<K:=by
       rcases lt_or_ge j K with h | h
       ·exact h
       ·obtain⟨q,g1,g2,g3⟩:=hKn (by omega)
        rcases hk.pair K j q p g1 hp g2 with f | f | f | f | f | f
        ·subst f;rw[hp] at g1;cases g1;omega
        ·rw[down K f] at g3;cases g3
        ·have:=hk.lt K j (by omega) f;omega
        ·omega
        ·exact absurd he1 f.2.2
        ·omega
      have ldE:∀(Hx:Zi) (k:Nat),opE Γ cf (t.E j) k Hx p.op=(match Zb5 Hx n0 ag0 (t.E j s') with | some v=>Zba v | none=>none):=fun Hx k=>by rw[hops];rfl
      rw[ldE] at y1
      have hyl:Zb5 (Zga (t.HH j) ([]++t.pos j) p.mask) n0 ag0 (t.E j s')=some (t.VV j)/\t.NW j=[]:=by
       cases hl:Zb5 (Zga (t.HH j) ([]++t.pos j) p.mask) n0 ag0 (t.E j s') with
       | none=>rw[hl] at y1;cases y1
       | some v=>
        rw[hl] at y1
        obtain⟨rfl,_,h3⟩:=ZQ y1
        exact⟨rfl,h3⟩
      obtain⟨hyl,hnw⟩:=hyl
      have key:∀k,j<=k->k<=K->Zb5 (t.HH k) n0 ag0 (t.E j s')=some (t.VV j):=by
       intro k
       induction k with
       | zero=>
        intro h _
        have:j=0:=by omega
        subst this
        exact Zme hyl fun b _ blk hb hd=>(see (by omega) b blk hb hd).1
       | succ k ih=>
        intro hjk hkK
        by_cases hjk':j=k+1
        ·subst hjk'
         exact Zme hyl fun b _ blk hb hd=>(see (by omega) b blk hb hd).1
        ·have ih':=ih (by omega) (by omega)
         have hq:l[k]? = some (l[k]'(by omega)):=gE (by omega)
         have app:∀(Ha Hb:Zi),Zb5 Ha n0 ag0 (t.E j s')=some (t.VV j)->Zb5 (Ha++Hb) n0 ag0 (t.E j s')=some (t.VV j):=fun Ha Hb hl=>
          Zme hl fun b _ blk hb _=>by rw[List.getElem?_append_left (gQ hb).1];exact hb
         rcases lt_or_ge (Z0 (l[k]'(by omega))) 3 with h | h
         ·rw[ht.stay1 hq (by omega)]
          exact app _ _ ih'
         ·rcases hk.pair k j _ p hq hp h with f | f | f | f | f | f
          ·subst f
           rw[hp] at hq
           have hq':=Option.some.inj hq
           rw[<- hq'] at h
           omega
          ·have:=hk.lt j k hjl f;omega
          ·have:=downD j k (by omega) (hKd k _ hq (by omega) h) f
           rw[hDj] at this;cases this
          ·omega
          ·exact absurd he1 f.2.2
          ·cases hwk:t.W k with
           | false=>
            obtain⟨_,n2,n3⟩:=ht.n k _ hq hwk
            rw[ht.h k _ hq,n2,n3]
            exact app _ _ ih'
           | true=>
            have zc:=(Zo4 (ht.y k _ hq hwk).2).2
            have hkp:=f.2.2
            unfold ZBg at hkp
            rw[hops] at hkp
            split at hkp
            ·rename_i f' args chk s'' hopk hsx
             cases hsx
             rw[hopk] at zc
             obtain⟨i0,q1,q2⟩:=Zv7 (show Zy3 (t.E k) (t.HH k) (Zbc (t.HH k) (t.UP k)) chk=true from zc) hkp
             rw[ht.envs hk hp he1 hsl k (by omega) (by omega)] at q1 q2
             rw[q1] at ih'
             rw[ht.h k _ hq]
             exact app _ _ (q2.trans ih')
            ·rename_i m' x' y' chk n' a' s'' hopk hsx
             cases hsx
             rw[hopk] at zc
             have ap:=Zri (show ZpD (t.E k) (t.UP k) chk=true from zc) hkp
             rw[ht.envs hk hp he1 hsl k (by omega) (by omega)] at ap
             rw[ht.h k _ hq]
             refine app _ _ (Zme ih' fun b hb blk hbk _=>?_)
             rw[ZuV (ap b hb)]
             exact hbk
            ·cases hkp
      refine⟨R.H,fun b blk hb _=>hb,?_⟩
      rw[hop,ldE]
      have:Zb5 R.H n0 ag0 (t.E j s')=some (t.VV j):=by
       refine Zme (key K (by omega) (Nat.le_refl _)) fun b hb blk hbk hd=>?_
       obtain⟨blk0,h5,h6⟩:=ZyP hyl hb
       obtain⟨g1,g2⟩:=see (by omega) b blk0 h5 h6
       have hbj:b<t.len j:=(gQ g1).1
       rw[hH,Zgr]
       ·exact hbk
       ·rw[Zkz]
        intro m hm h3 h4
        rcases lt_or_ge m j with h | h
        ·exact g2 m h h3 h4
        ·have:=ht.len_mono (a:=j) m h (by omega);omega
      rw[this,hnw];rfl
    ·obtain⟨t1,t2⟩:=two h2
     refine⟨_,fun b blk hb hd=>?_,by rw[hop];exact y1⟩
     rw[ZI] at hb
     obtain⟨g1,g2⟩:=see (by omega) b blk hb hd
     have hbj:b<t.len j:=(gQ g1).1
     rw[ZI,hH,Zgr,ht.stay K (by omega) hK t2 b hbj]
     ·exact g1
     ·rw[Zkz]
      intro m hm h3 h4
      rcases lt_or_ge m j with h | h
      ·exact g2 m h h3 h4
      ·have:=ht.len_mono (a:=j) m h (by omega);omega
   obtain⟨Hm,hle,hop'⟩:=hHm
   have pre:Pre G R w env a Hm:=⟨ok,x.gok c.ok.b01 c.g,hE,hle⟩
   have hplaced:ZK R.H [] (t.len j) (t.NW j) (Zje t (upd D j) K):=fun i=>by rw[stg i,hH];rfl
   refine .inl ((Zym pre c.cf k3 hop' free hplaced).wp fun u w' hpost=>?_)
   obtain⟨R',x',ok',hH',hv,hM'⟩:=hpost
   exact fin K R' u w' hK hKd' hKn' x' ok' hH' (fun i h1 h2=>hM' i h1 (by omega)) hv
 ·
  have hjK:j=K:=by
   rcases Nat.lt_trichotomy j K with h | h | h
   ·rw[hKd j p hp h hc] at hDj;cases hDj
   ·exact h
   ·obtain⟨q,g1,g2,g3⟩:=hKn (by omega)
    rcases hk.order g1 hp g2 (by omega) with f | f | f
    ·omega
    ·rw[down K f.2] at g3;cases g3
    ·omega
  subst hjK
  have below:∀m q,l[m]? = some q->m<j->2<=Z0 q->D m=true:=fun m q hq hm h2=>by
   rcases hk.order hp hq hc h2 with f | f | f
   ·omega
   ·omega
   ·exact down m f.2
  have above:∀m q,l[m]? = some q->j<m->2<=Z0 q->D m=false:=fun m q hq hm h2=>by
   cases hd:D m with
   | false=>rfl
   | true=>
    rcases hk.order hp hq hc h2 with f | f | f
    ·omega
    ·have:=downD j m (gQ hq).1 hd f.2
     rw[hDj] at this;cases this
    ·omega
  have full:Zje t D j=t.HH j:=by
   apply List.ext_getElem?
   intro i
   refine Zgr (Zkz.2 fun m hm h3 h4=>?_)
   have hq:l[m]? = some (l[m]'(by omega)):=gE (by omega)
   exact below m _ hq hm (ht.new2 hq ⟨h3,h4⟩)
  rw[full] at hH
  have go:∀(R':RP) (u:Value) (w':World),Ext R w R' w'->R'.OK w'->R'.H=t.HH (j+1)->(∀i,R.M i=none->¬(t.len j<=i/\i<t.len (j+1))->R'.M i=none)->Z5 R' w' (t.VV j) u->ZyU P N t l os e H Rf wf (upd D j) (a.put o.dst u) w':=by
   intro R' u w' x' ok' hH' hM' hv
   obtain⟨K',g1,g2,g3,g4,g5⟩:=ZzZ ht (D:=upd D j) (s:=j+1) (by omega) ok' hH' (fun m q hq hm h2=>by
    unfold upd
    by_cases hmj:m=j
    ·rw[if_pos hmj]
    ·rw[if_neg hmj];exact below m q hq (by omega) h2) (fun m q hq hm h2=>by
    unfold upd;rw[if_neg (by omega)];exact above m q hq (by omega) h2)
   exact fin K' _ u w' g1 g2 g3 (x'.trans g4) g5 rfl hM' (g4.denV ok'.b01 _ _ hv)
  unfold wpOp
  simp only[ho]
  cases hw:t.W j with
  | false=>
   rw[hw] at hwant
   rw[hwant]
   simp only[Bool.false_eq_true,if_false]
   obtain⟨n1,n2,n3⟩:=ht.n j p hp hw
   refine go R undef w (Ext.refl R w) ok ?_ (fun i h _=>h) (by rw[n1];exact Zrv)
   rw[hH,ht.h j p hp,n2,n3];simp[Zbc]
  | true=>
   rw[hw] at hwant
   rw[hwant]
   simp only[if_true]
   obtain⟨y1,y2⟩:=ht.y j p hp hw
   rw[hk.mask j p hp hc] at y1
   have pre:Pre G R w env a (t.HH j):=⟨ok,x.gok c.ok.b01 c.g,hE,fun b blk hb _=>by rw[hH];exact hb⟩
   have hplaced:ZK R.H (t.UP j) (t.len j) (t.NW j) (t.HH (j+1)):=by
    rw[hH,ht.h j p hp];exact ZfA _ _ _
   refine .inl ((Zym pre c.cf k3 (by rw[hop];exact y1) free hplaced).wp fun u w' hpost=>?_)
   obtain⟨R',x',ok',hH',hv,hM'⟩:=hpost
   exact go R' u w' x' ok' hH' (fun i h1 h2=>hM' i h1 (by omega)) hv
theorem ZtI {p q:Nat->Bool}:∀(l:List Nat) (j:Nat),(∀x,q x=true->p x=true)->j∈l->p j=true->q j=false->l.countP q<l.countP p
 | [],j,_,h,_,_=>by cases h
 | x :: l,j,hq,h,h1,h2=>by
  have mono:∀l:List Nat,l.countP q<=l.countP p:=fun l=>List.countP_mono_left fun x _ h=>hq x h
  rw[List.countP_cons,List.countP_cons]
  by_cases hx:x=j
  ·subst hx
   have:=mono l
   rw[h1,h2];simp;omega
  ·have:=ZtI l j hq ((List.mem_cons.1 h).resolve_left (fun h=>hx h.symm)) h1 h2
   cases hqx:q x with
   | true=>rw[hq x hqx];simp;omega
   | false=>cases hpx:p x<;>simp<;>omega
theorem Zz3 (c:ZhA P G cf Rf wf) (hlo:Rf.H.length<=H.length) (ht:t.OK Γ cf [] l e H e' H') (hk:Chk P G N os l B) {Q:Exit->Act->World->Prop} (hQ:∀D a w,(∀j,j<l.length->D j=true)->ZyU P N t l os e H Rf wf D a w->Q .normal a w) :
  ∀(fuel:Nat) (listed:Array Bool) (a:Act) (w:World),listed.size=os.size->ZyU P N t l os e H Rf wf (fun j=>listed.getD j false) a w->(List.range os.size).countP (fun j=>!listed.getD j false)<=fuel->wpAny P .any os Q fuel listed a w:=by
 have full:∀(listed:Array Bool),listed.size=os.size->(Region.ready .any os listed=[])->∀j,j<l.length->listed.getD j false=true:=by
  intro listed hsz hr j
  induction j using Nat.strongRecOn with
  | ind j ih=>
   intro hj
   have hjs:j<os.size:=by rw[hk.len];exact hj
   cases hd:listed.getD j false with
   | true=>rfl
   | false=>
    have:j∈Region.ready .any os listed:=by
     rw[mem_ready]
     refine⟨?_,os[j],Array.getElem?_eq_getElem hjs,fun ed he hb=>?_⟩
     ·simp only[Array.getD_eq_getD_getElem?] at hd ⊢
      rw[Array.getElem?_eq_getElem (by omega)] at hd ⊢;exact hd
     ·have hlt:=hk.pre j _ (Array.getElem?_eq_getElem hjs) ed.on (by
       unfold Zpg
       exact List.mem_map.2 ⟨ed,List.mem_filter.2 ⟨by simpa using he,hb⟩,rfl⟩)
      exact ih ed.on hlt (by omega)
    rw[hr] at this;cases this
 intro fuel
 induction fuel with
 | zero=>
  intro listed a w hsz s hc
  have hall:∀j,j<l.length->listed.getD j false=true:=fun j hj=>by
   cases hd:listed.getD j false with
   | true=>rfl
   | false=>
    have h1:0<(List.range os.size).countP (fun j=>!listed.getD j false):=List.countP_pos_iff.2 ⟨j,by simp[hk.len,hj],by simp only[hd];rfl⟩
    omega
  refine⟨?_,hQ _ a w hall s⟩
  apply List.eq_nil_iff_forall_not_mem.2
  intro j hj
  obtain⟨h1,o,h2,_⟩:=mem_ready.1 hj
  have hjs:=(Array.getElem?_eq_some_iff.1 h2).1
  have:=hall j (by rw[<- hk.len];exact hjs)
  simp only[Array.getD_eq_getD_getElem?] at h1 this
  rw[Array.getElem?_eq_getElem (by omega)] at h1 this
  simp at h1 this;rw[h1] at this;cases this
 | succ fuel ih=>
  intro listed a w hsz s hc
  refine⟨fun hr=>hQ _ a w (full listed hsz hr) s,fun j hj=>?_⟩
  obtain⟨h1,o,h2,h3⟩:=mem_ready.1 hj
  have hjs:=(Array.getElem?_eq_some_iff.1 h2).1
  have hd:listed.getD j false=false:=by
   simp only[Array.getD_eq_getD_getElem?] at h1 ⊢
   rw[Array.getElem?_eq_getElem (by omega)] at h1 ⊢;exact h1
  have hup:upd (fun j=>listed.getD j false) j=fun k=>(listed.setIfInBounds j true).getD k false:=by
   funext k
   unfold upd
   by_cases hkj:k=j
   ·subst hkj
    rw[if_pos rfl]
    simp[Array.getD_eq_getD_getElem?,hsz,hjs]
   ·rw[if_neg hkj,getD_set_ne false (fun h=>hkj h.symm)]
  refine wpOp_mono (fun a' w' s'=>ih _ a' w' (by simp[hsz]) s' ?_) (hup ▸ step c hlo ht hk s h2 hd fun i hi=>?_)
  ·have:=ZtI (p:=fun j=>!listed.getD j false) (q:=fun k=>!(listed.setIfInBounds j true).getD k false) (List.range os.size) j (fun k hk'=>by
    by_cases hkj:j=k
    ·subst hkj;simp only[hd];rfl
    ·rw[getD_set_ne false hkj] at hk';exact hk') (by simp[hjs]) (by simp only[hd];rfl) (by simp[Array.getD_eq_getD_getElem?,hsz,hjs])
   omega
  ·unfold Zpg at hi
   obtain⟨ed,f1,rfl⟩:=List.mem_map.1 hi
   obtain⟨f2,f3⟩:=List.mem_filter.1 f1
   exact h3 ed (by simpa using f2) f3
end
theorem ZDP {P:Program}{G:Z1}{N:Nat}{Γ:Ctx}{cf:Zac}:ZnS P G N Γ cf (ZlS P G N):=by
 intro id os l Rf wf e H e' H' a w hok hd c s
 obtain⟨B,hk⟩:=ZwR hok
 obtain⟨t,ht⟩:=Zrr l [] e H e' H' hd
 obtain⟨R,x,ok,hH,hM,hE⟩:=s.ex
 refine wp_region_any hk.mixed ?_
 have xd:Ext R w R { w with drawn:=w.drawn+1 }:=Ext.draw rfl rfl rfl rfl
 have okd:R.OK { w with drawn:=w.drawn+1 }:=ok.draw rfl rfl rfl rfl
 refine Zz3 c s.hl ht hk (fun D a' w' hall s'=>?_) os.size _ a _ (by simp) ?_ ?_
 ·obtain⟨K,R',env,h1,h2,h3,x',ok',hH',hM',hE',hV,hO⟩:=s'.ex
  have hKl:K=l.length:=by
   rcases lt_or_ge K l.length with h | h
   ·obtain⟨_,_,_,h4⟩:=h3 h
    rw[hall K h] at h4;cases h4
   ·omega
  subst hKl
  have hHe:Zje t D l.length=H':=by
   rw[<- ht.h1]
   apply List.ext_getElem?
   intro i
   exact Zgr (Zkz.2 fun m hm _ _=>hall m hm)
  have hle:H.length<=H'.length:=by
   have:=ht.len_mono (a:=0) l.length (by omega) (Nat.le_refl _)
   unfold Zbr.len at this;rw[ht.h0,ht.h1] at this;exact this
  have henv:∀d,env d=e' d:=fun d=>by
   rw[<- ht.e1]
   by_cases hx:∃(i:Nat) (q:Op1),l[i]? = some q/\q.dst=some d
   ·obtain⟨i,q,hq,hqd⟩:=hx
    have hi:=(gQ hq).1
    rw[hV i q d hq hqd (hall i hi),ht.envd hk hq hqd l.length hi (Nat.le_refl _)]
   ·have hn:∀(i:Nat) (q:Op1),l[i]? = some q->q.dst≠some d:=fun i q hq hqd=>hx ⟨i,q,hq,hqd⟩
    rw[hO d fun i q hq hqd=>absurd hqd (hn i q hq),ht.env0 l.length (Nat.le_refl _) fun i q _ hq=>hn i q hq]
  refine⟨rfl,⟨⟨R',x',ok',by rw[hH',hHe],fun i hi=>hM' i (by omega) fun j hj _ hb=>?_,fun d=>by rw[<- henv d];exact hE' d⟩,s'.tm,s'.df,by have:=s.hl;omega⟩⟩
  have:=ht.len_mono (a:=j+1) l.length (by omega) (Nat.le_refl _)
  have h2:t.len l.length=H'.length:=by unfold Zbr.len;rw[ht.h1]
  omega
 ·have hf:∀j,(Array.replicate os.size false).getD j false=false:=fun j=>by
   by_cases hj:j<os.size<;>simp[Array.getD_eq_getD_getElem?,hj]
  obtain⟨K,g1,g2,g3,g4,g5⟩:=ZzZ ht (D:=fun j=>(Array.replicate os.size false).getD j false) (s:=0) (zero_le _) okd (by rw[ht.h0];exact hH) (fun m p _ hm=>by omega) (fun m p _ _ _=>hf m)
  refine⟨fun j o _ hd=>(by rw[hf j] at hd;cases hd),⟨K,_,e,g1,g2,g3,(x.trans xd).trans g4,g5,rfl,fun i hi _=>hM i hi,g4.envOK okd.b01 (xd.envOK ok.b01 hE),fun j p d _ _ hd=>(by rw[hf j] at hd;cases hd),fun d _=>rfl⟩,s.tm,s.df⟩
 ·exact le_trans List.countP_le_length (by simp)
theorem ZzW {P:Program}{G:Z1}{Γ:Ctx} (hall:∀f fn,Γ.code f=some fn->Zup P G (fun N=>ZlS P G N) f fn=true∨Zpl P G f fn):ZeF P G (evW Γ):=
 ZEP (fun _ _ _=>ZDP) hall
end
end Go.Proofs.YtgcfmiajkbbmeaaGreatE
namespace Go.Proofs.YtgcfmiajkbbmeaaGreat
open Go Go.Proofs Go.Proofs.YtgcfmiajkbbmeaaGreatE
open Go.IntKind (u64 i64 u32 i32 u8)
open Nat (zero_add)
open List (getElem_mem)
theorem ZAg (x:Int):0<=u64.wrap x/\u64.wrap x<18446744073709551616:=by
 have:u64.wrap x=x % 18446744073709551616:=by simp[IntKind.wrap,IntKind.bits,IntKind.signed]
 omega
theorem tz0 (n:Int) (w:World) (hw:∀i,i<64->∃m,w.cell? ⟨1,i,none⟩=some (.int .u8 m)):Calls Tryz.prog 207 #[.int .u64 n] w fun e w'=>∃u,e = .returned u/\w'=w:=by
 have hr:=ZAg (bits BinOp.and u64 n (u64.wrap (-n))*285870213051353865)
 obtain⟨m,hm⟩:=hw (u64.wrap (bits BinOp.and u64 n (u64.wrap (-n))*285870213051353865) / 288230376151711744).toNat (by omega)
 go_enter Tryz.func207,Tryz.ntmps207
 go_wp2
 all_goals
  go_ret
  exact⟨_,rfl,rfl⟩
theorem Zw2:∀l:List (IntKind×Int),gD l=l.map fun x=>D.int x.1 x.2
 | []=>rfl
 | x :: r=>by show _ :: gD r=_;rw[Zw2 r];rfl
theorem ZFW {G:Z1}{row:List (IntKind×Int)} (hg:G 1=some row) (hl:row.length=64) (hk:∀x∈row,x.1 = .u8):ZBh Tryz.prog G 207:=by
 intro n R w ok g
 refine tz0 n w fun i hi=>?_
 obtain⟨b,off,h1,_,_,h2⟩:=g 1 row hg
 cases h1
 have hx:(gD row)[i]? = some (.int row[i].1 row[i].2):=by rw[Zw2,List.getElem?_map,gE (by omega)];rfl
 obtain⟨u,q1,q2⟩:=Zi3 _ _ _ _ h2 hx
 have hu:u = .int row[i].1 row[i].2:=q2
 rw[hk _ (getElem_mem _)] at hu
 rw[zero_add] at q1
 exact⟨_,by rw[q1,hu]⟩
def Zrl (G:Z1):Prop:=∃row:List (IntKind×Int),G 1=some row/\row.length=64/\∀x∈row,x.1 = .u8
theorem ZDH {G:Z1} (hG:Zrl G):ZBh Tryz.prog G 207:=by
 obtain⟨row,h1,h2,h3⟩:=hG
 exact ZFW h1 h2 h3
open Go Go.Proofs Go.Proofs.YtgcfmiajkbbmeaaGreatE Go.Shelf Go.Sort
open Option (map_some)
def ZDm:Ren:=⟨fun | 189=>110 | 125=>117 | 257=>116 | 128=>131 | 129=>132 | 294=>122 | 295=>123 | 296=>124 | 297=>125 | 298=>126 | 299=>127 | 216=>128 | 300=>129 | 301=>130 | 328=>136 | 329=>137 | 330=>138 | 331=>139 | 332=>140 | 215=>141 | 343=>142 | n=>n,fun | 28=>22 | 3=>3 | 46=>155 | 0=>0 | 51=>169 | 53=>171 | 4=>4 | 183=>163 | 182=>162 | 131=>149 | 5=>5 | 9=>9 | 218=>175 | 222=>179 | 228=>181 | 229=>182 | n=>n,fun n=>n⟩
theorem ZvE:Lays.n189 Tryz.prog ZDm where
 mixed:=by kernel_rfl
 f125:=Tryz.func117.trans (congrArg some (by kernel_rfl))
 f128:=Tryz.func131.trans (congrArg some (by kernel_rfl))
 f129:=Tryz.func132.trans (congrArg some (by kernel_rfl))
 f189:=Tryz.func110.trans (congrArg some (by kernel_rfl))
 f215:=Tryz.func141.trans (congrArg some (by kernel_rfl))
 f216:=Tryz.func128.trans (congrArg some (by kernel_rfl))
 f257:=Tryz.func116.trans (congrArg some (by kernel_rfl))
 f294:=Tryz.func122.trans (congrArg some (by kernel_rfl))
 f295:=Tryz.func123.trans (congrArg some (by kernel_rfl))
 f296:=Tryz.func124.trans (congrArg some (by kernel_rfl))
 f297:=Tryz.func125.trans (congrArg some (by kernel_rfl))
 f298:=Tryz.func126.trans (congrArg some (by kernel_rfl))
 f299:=Tryz.func127.trans (congrArg some (by kernel_rfl))
 f300:=Tryz.func129.trans (congrArg some (by kernel_rfl))
 f301:=Tryz.func130.trans (congrArg some (by kernel_rfl))
 f328:=Tryz.func136.trans (congrArg some (by kernel_rfl))
 f329:=Tryz.func137.trans (congrArg some (by kernel_rfl))
 f330:=Tryz.func138.trans (congrArg some (by kernel_rfl))
 f331:=Tryz.func139.trans (congrArg some (by kernel_rfl))
 f332:=Tryz.func140.trans (congrArg some (by kernel_rfl))
 f343:=Tryz.func142.trans (congrArg some (by kernel_rfl))
 t0:=Tryz.underlying0
 a0:=Tryz.isAgg0
 z0:=Tryz.sizeOf0
 v0:=Tryz.zeroValue0
 t3:=Tryz.underlying3
 a3:=Tryz.isAgg3
 z3:=Tryz.sizeOf3
 v3:=Tryz.zeroValue3
 t4:=Tryz.underlying4
 a4:=Tryz.isAgg4
 z4:=Tryz.sizeOf4
 v4:=Tryz.zeroValue4
 t5:=Tryz.underlying5
 a5:=Tryz.isAgg5
 z5:=Tryz.sizeOf5
 v5:=Tryz.zeroValue5
 t9:=Tryz.underlying9
 a9:=Tryz.isAgg9
 z9:=Tryz.sizeOf9
 v9:=Tryz.zeroValue9
 t28:=Tryz.underlying22
 a28:=Tryz.isAgg22
 z28:=Tryz.sizeOf22
 v28:=Tryz.zeroValue22
 t46:=Tryz.underlying155
 a46:=Tryz.isAgg155
 z46:=Tryz.sizeOf155
 v46:=Tryz.zeroValue155
 t51:=Tryz.underlying169
 a51:=Tryz.isAgg169
 z51:=Tryz.sizeOf169
 v51:=Tryz.zeroValue169
 t53:=Tryz.underlying171
 a53:=Tryz.isAgg171
 z53:=Tryz.sizeOf171
 v53:=Tryz.zeroValue171
 t131:=Tryz.underlying149
 a131:=Tryz.isAgg149
 z131:=Tryz.sizeOf149
 v131:=Tryz.zeroValue149
 t182:=Tryz.underlying162
 a182:=Tryz.isAgg162
 z182:=Tryz.sizeOf162
 v182:=Tryz.zeroValue162
 t183:=Tryz.underlying163
 a183:=Tryz.isAgg163
 z183:=Tryz.sizeOf163
 v183:=Tryz.zeroValue163
 t218:=Tryz.underlying175
 a218:=Tryz.isAgg175
 z218:=Tryz.sizeOf175
 v218:=Tryz.zeroValue175
 t222:=Tryz.underlying179
 a222:=Tryz.isAgg179
 z222:=Tryz.sizeOf179
 v222:=Tryz.zeroValue179
 t228:=Tryz.underlying181
 a228:=Tryz.isAgg181
 z228:=Tryz.sizeOf181
 v228:=Tryz.zeroValue181
 t229:=Tryz.underlying182
 a229:=Tryz.isAgg182
 z229:=Tryz.sizeOf182
 v229:=Tryz.zeroValue182
theorem Zo6 (x:Int):∀l:List Int,(ZtW x l).Perm (x :: l)
 | []=>.refl _
 | y :: r=>by
  unfold ZtW
  cases decide (x<=y) with
  | true=>exact .refl _
  | false=>exact((Zo6 x r).cons y).trans (.swap x y r)
theorem ZpY (x:Int):∀l:List Int,l.Pairwise (· <= ·)->(ZtW x l).Pairwise (· <= ·)
 | [],_=>by simp[ZtW]
 | y :: r,h=>by
  have h':=List.pairwise_cons.1 h
  unfold ZtW
  cases hd:decide (x<=y) with
  | true=>
   have hxy:=of_decide_eq_true hd
   refine List.pairwise_cons.2 ⟨fun z hz=>?_,h⟩
   rcases List.mem_cons.1 hz with rfl | hz
   ·exact hxy
   ·exact Int.le_trans hxy (h'.1 z hz)
  | false=>
   have hxy:=of_decide_eq_false hd
   refine List.pairwise_cons.2 ⟨fun z hz=>?_,ZpY x r h'.2⟩
   rcases List.mem_cons.1 ((Zo6 x r).mem_iff.1 hz) with rfl | hz
   ·omega
   ·exact h'.1 z hz
theorem ZnL:∀l:List Int,(sortI l).Perm l
 | []=>.refl _
 | x :: r=>(Zo6 x _).trans ((ZnL r).cons x)
theorem ZkK:∀l:List Int,(sortI l).Pairwise (· <= ·)
 | []=>.nil
 | x :: r=>ZpY x _ (ZkK r)
theorem ZuQ (l:List Int):l.mergeSort (fun x y=>decide (x<=y))=sortI l:=by
 have h1:(l.mergeSort (fun x y=>decide (x<=y))).Pairwise (· <= ·):=by
  have:=List.pairwise_mergeSort (le:=fun x y:Int=>decide (x<=y)) (fun a b c h1 h2=>by simp only[decide_eq_true_eq] at *;omega) (fun a b=>by simp only[Bool.or_eq_true,decide_eq_true_eq];omega) l
  exact this.imp fun h=>of_decide_eq_true h
 exact((List.mergeSort_perm l _).trans (ZnL l).symm).eq_of_pairwise (le:=(· <= ·)) (fun a b _ _ h1 h2=>Int.le_antisymm h1 h2) h1 (ZkK l)
theorem ZGl:ZuG Tryz.prog 110 where
 nil p cap w:=Any.slices_Sort_int_none ZvE p cap w
 all zs c cs el cap w hl hc hcs:=by
  have hcl:c<w.heap.size:=(Array.getElem?_eq_some_iff.1 hc).1
  have hH:Holds (Value.int .i64) w c 0 zs.toArray:=fun j hj=>by
   have hj':j<zs.length:=by simpa using hj
   refine⟨?_,by simp[World.frozen?,hc]⟩
   simp only[World.cell?,hc,zero_add]
   have:=hcs j zs[j] (gE hj')
   simp[this,hj']
  refine(Any.slices_Sort_int ZvE c 0 cap zs w hH hcl (Nat.lt_of_le_of_lt hl (by decide))).mono ?_
  rintro e w' ⟨rfl,n,os,rfl⟩
  rw[ZuQ]
  have hget:∀b,(putRow (Value.int .i64) (Go.Sort.ahead w n) c 0 (sortI zs).toArray).heap[b]? = if c=b then (w.heap[b]?).map (onCells (putCells (Value.int .i64) 0 (sortI zs).toArray)) else w.heap[b]?:=fun b=>by
   show(w.heap.modify c _)[b]? = _
   rw[Array.getElem?_modify]
  have hsz:(putRow (Value.int .i64) (Go.Sort.ahead w n) c 0 (sortI zs).toArray).heap.size=w.heap.size:=by
   show(w.heap.modify c _).size=_
   simp
  refine⟨rfl,putRow (Value.int .i64) (Go.Sort.ahead w n) c 0 (sortI zs).toArray,putCells (Value.int .i64) 0 (sortI zs).toArray cs,?_,?_,?_,?_,hsz,rfl,rfl,rfl,?_,?_,rfl,rfl,rfl⟩
  ·rw[hget,if_pos rfl,hc];rfl
  ·simp[putCells]
  ·intro j x hj
   have hjl:j<(sortI zs).length:=(gQ hj).1
   have hx:(sortI zs)[j]=x:=(gQ hj).2
   have hjz:j<zs.length:=by rw[<- Zo7 zs];exact hjl
   have h1:=hcs j zs[j] (gE hjz)
   simp only[putCells,Array.getElem?_mapIdx,h1,map_some]
   simp[hjl,hx]
  ·intro c' hne
   rw[hget,if_neg (fun h=>hne h.symm)]
  ·intro b hb
   exact heap_grow_old _ _ hb
  ·show _<=((putRow (Value.int .i64) (Go.Sort.ahead w n) c 0 (sortI zs).toArray).heap++os).size
   simp
open Go Go.Proofs.YtgcfmiajkbbmeaaGreatE
def okL:List (Nat×FnI):=[(4,fn4),(9,fn9),(11,ZHO),(12,ZE0),(14,ZFZ),(15,ZFI),(16,ZFV),(17,ZH5),(18,ZFX),(19,ZEu),(20,ZE4),(21,ZFG),(22,ZFf),(23,ZFU),(24,ZEE),(25,ZHx),(28,ZEV),(30,ZEK),(33,ZHN),(34,ZET),(36,ZFM),(38,ZEs),(39,ZEq),(40,ZEv),(41,ZFb),(42,ZF6),(43,ZFk),(44,ZFB),(45,ZFe),(46,ZFg),(47,ZEz),(48,ZFm),(49,ZF1),(50,ZF4),(51,ZFa),(52,ZFT),(53,ZF3),(55,ZES),(56,ZFc),(59,ZEG),(60,ZGc),(61,ZG3),(64,ZEX),(65,ZF7),(66,Zy1),(67,ZEW),(68,ZEy),(69,ZFL),(70,ZFA),(71,ZFj),(72,ZEr),(73,ZEL),(74,ZFn),(75,ZEZ),(76,ZEY),(77,ZEx),(78,ZFQ),(79,ZEN),(80,ZFS),(81,ZDc),(82,ZFK),(83,ZEM),(84,ZFu),(85,ZEC),(86,ZFv),(87,ZFo),(88,ZFl),(89,ZDB),(90,ZFF),(91,ZE5),(92,ZEw),(94,ZFC),(95,ZHk),(96,ZGI),(97,ZHd),(98,ZHL),(99,Zv5),(100,ZCi),(101,ZAq),(102,ZAW),(103,ZBd),(104,ZAB),(105,ZBU),(106,ZAu),(107,ZAZ),(108,ZAF),(109,ZxP),(111,ZzG),(112,ZCv),(113,ZCT),(114,ZAX),(115,ZCj),(118,ZBC),(119,ZBz),(120,ZxV),(121,Zz7),(133,ZAP),(134,ZzJ),(135,ZAt),(159,ZCS),(160,ZEp),(161,Zz2),(162,ZCC),(163,ZCE),(164,ZCV),(165,ZAj),(166,ZAs),(167,ZzT),(168,ZCq),(169,ZBk),(170,ZAO),(171,ZAD),(172,ZAK),(173,ZCy),(174,ZB3),(175,ZCf),(176,ZAa),(177,ZzM),(178,ZBP),(179,ZCN),(180,Zz5),(181,ZC0),(182,ZBX),(183,ZCr),(184,ZzE),(185,ZCp),(186,ZAv),(187,ZzF),(188,ZCc),(189,ZBm),(190,ZBy),(191,ZCx),(192,Zzz),(193,ZAx),(194,ZAc),(195,ZBJ),(196,ZAQ),(197,ZAU),(198,ZCI),(199,ZBc),(200,ZCa),(201,ZBD),(202,ZAC),(203,ZCQ),(204,ZEd),(205,ZCD),(208,ZAd),(209,ZB0),(210,ZCP),(211,ZBp),(212,ZBW),(213,ZB2),(214,ZBw),(215,ZBb),(216,ZEf),(217,ZzP),(218,ZBN),(219,ZCz),(220,ZBF)]
theorem ZI0 (G:Z1):okL.all (fun x=>Zup Tryz.prog G (fun N=>ZlS Tryz.prog G N) x.1 x.2)=true:=by kernel_rfl
theorem okZ (G:Z1) (i:Nat) {x:Nat×FnI} (h:okL[i]? = some x):Zup Tryz.prog G (fun N=>ZlS Tryz.prog G N) x.1 x.2=true:=List.all_eq_true.1 (ZI0 G) x (mG h)
theorem ZE7 (G:Z1) (hG:Zrl G):∀f fn,code f=some fn->Zup Tryz.prog G (fun N=>ZlS Tryz.prog G N) f fn=true∨Zpl Tryz.prog G f fn:=by
 intro f fn h
 unfold code at h
 split at h
 ·cases h;exact .inl (okZ G 0 rfl)
 ·cases h;exact .inl (okZ G 1 rfl)
 ·cases h;exact .inl (okZ G 2 rfl)
 ·cases h;exact .inl (okZ G 3 rfl)
 ·cases h;exact .inl (okZ G 4 rfl)
 ·cases h;exact .inl (okZ G 5 rfl)
 ·cases h;exact .inl (okZ G 6 rfl)
 ·cases h;exact .inl (okZ G 7 rfl)
 ·cases h;exact .inl (okZ G 8 rfl)
 ·cases h;exact .inl (okZ G 9 rfl)
 ·cases h;exact .inl (okZ G 10 rfl)
 ·cases h;exact .inl (okZ G 11 rfl)
 ·cases h;exact .inl (okZ G 12 rfl)
 ·cases h;exact .inl (okZ G 13 rfl)
 ·cases h;exact .inl (okZ G 14 rfl)
 ·cases h;exact .inl (okZ G 15 rfl)
 ·cases h;exact .inl (okZ G 16 rfl)
 ·cases h;exact .inl (okZ G 17 rfl)
 ·cases h;exact .inl (okZ G 18 rfl)
 ·cases h;exact .inl (okZ G 19 rfl)
 ·cases h;exact .inl (okZ G 20 rfl)
 ·cases h;exact .inl (okZ G 21 rfl)
 ·cases h;exact .inl (okZ G 22 rfl)
 ·cases h;exact .inl (okZ G 23 rfl)
 ·cases h;exact .inl (okZ G 24 rfl)
 ·cases h;exact .inl (okZ G 25 rfl)
 ·cases h;exact .inl (okZ G 26 rfl)
 ·cases h;exact .inl (okZ G 27 rfl)
 ·cases h;exact .inl (okZ G 28 rfl)
 ·cases h;exact .inl (okZ G 29 rfl)
 ·cases h;exact .inl (okZ G 30 rfl)
 ·cases h;exact .inl (okZ G 31 rfl)
 ·cases h;exact .inl (okZ G 32 rfl)
 ·cases h;exact .inl (okZ G 33 rfl)
 ·cases h;exact .inl (okZ G 34 rfl)
 ·cases h;exact .inl (okZ G 35 rfl)
 ·cases h;exact .inl (okZ G 36 rfl)
 ·cases h;exact .inl (okZ G 37 rfl)
 ·cases h;exact .inl (okZ G 38 rfl)
 ·cases h;exact .inl (okZ G 39 rfl)
 ·cases h;exact .inl (okZ G 40 rfl)
 ·cases h;exact .inl (okZ G 41 rfl)
 ·cases h;exact .inl (okZ G 42 rfl)
 ·cases h;exact .inl (okZ G 43 rfl)
 ·cases h;exact .inl (okZ G 44 rfl)
 ·cases h;exact .inl (okZ G 45 rfl)
 ·cases h;exact .inl (okZ G 46 rfl)
 ·cases h;exact .inl (okZ G 47 rfl)
 ·cases h;exact .inl (okZ G 48 rfl)
 ·cases h;exact .inl (okZ G 49 rfl)
 ·cases h;exact .inl (okZ G 50 rfl)
 ·cases h;exact .inl (okZ G 51 rfl)
 ·cases h;exact .inl (okZ G 52 rfl)
 ·cases h;exact .inl (okZ G 53 rfl)
 ·cases h;exact .inl (okZ G 54 rfl)
 ·cases h;exact .inl (okZ G 55 rfl)
 ·cases h;exact .inl (okZ G 56 rfl)
 ·cases h;exact .inl (okZ G 57 rfl)
 ·cases h;exact .inl (okZ G 58 rfl)
 ·cases h;exact .inl (okZ G 59 rfl)
 ·cases h;exact .inl (okZ G 60 rfl)
 ·cases h;exact .inl (okZ G 61 rfl)
 ·cases h;exact .inl (okZ G 62 rfl)
 ·cases h;exact .inl (okZ G 63 rfl)
 ·cases h;exact .inl (okZ G 64 rfl)
 ·cases h;exact .inl (okZ G 65 rfl)
 ·cases h;exact .inl (okZ G 66 rfl)
 ·cases h;exact .inl (okZ G 67 rfl)
 ·cases h;exact .inl (okZ G 68 rfl)
 ·cases h;exact .inl (okZ G 69 rfl)
 ·cases h;exact .inl (okZ G 70 rfl)
 ·cases h;exact .inl (okZ G 71 rfl)
 ·cases h;exact .inl (okZ G 72 rfl)
 ·cases h;exact .inl (okZ G 73 rfl)
 ·cases h;exact .inl (okZ G 74 rfl)
 ·cases h;exact .inl (okZ G 75 rfl)
 ·cases h;exact .inl (okZ G 76 rfl)
 ·cases h;exact .inl (okZ G 77 rfl)
 ·cases h;exact .inl (okZ G 78 rfl)
 ·cases h;exact .inl (okZ G 79 rfl)
 ·cases h;exact .inl (okZ G 80 rfl)
 ·cases h;exact .inl (okZ G 81 rfl)
 ·cases h;exact .inl (okZ G 82 rfl)
 ·cases h;exact .inl (okZ G 83 rfl)
 ·cases h;exact .inl (okZ G 84 rfl)
 ·cases h;exact .inl (okZ G 85 rfl)
 ·cases h;exact .inl (okZ G 86 rfl)
 ·cases h;exact .inr (.inr (.inl ⟨by kernel_rfl,rfl,ZGl⟩))
 ·cases h;exact .inl (okZ G 87 rfl)
 ·cases h;exact .inl (okZ G 88 rfl)
 ·cases h;exact .inl (okZ G 89 rfl)
 ·cases h;exact .inl (okZ G 90 rfl)
 ·cases h;exact .inl (okZ G 91 rfl)
 ·cases h;exact .inl (okZ G 92 rfl)
 ·cases h;exact .inl (okZ G 93 rfl)
 ·cases h;exact .inl (okZ G 94 rfl)
 ·cases h;exact .inl (okZ G 95 rfl)
 ·cases h;exact .inl (okZ G 96 rfl)
 ·cases h;exact .inl (okZ G 97 rfl)
 ·cases h;exact .inl (okZ G 98 rfl)
 ·cases h;exact .inl (okZ G 99 rfl)
 ·cases h;exact .inl (okZ G 100 rfl)
 ·cases h;exact .inl (okZ G 101 rfl)
 ·cases h;exact .inl (okZ G 102 rfl)
 ·cases h;exact .inl (okZ G 103 rfl)
 ·cases h;exact .inl (okZ G 104 rfl)
 ·cases h;exact .inl (okZ G 105 rfl)
 ·cases h;exact .inl (okZ G 106 rfl)
 ·cases h;exact .inl (okZ G 107 rfl)
 ·cases h;exact .inl (okZ G 108 rfl)
 ·cases h;exact .inl (okZ G 109 rfl)
 ·cases h;exact .inl (okZ G 110 rfl)
 ·cases h;exact .inl (okZ G 111 rfl)
 ·cases h;exact .inl (okZ G 112 rfl)
 ·cases h;exact .inl (okZ G 113 rfl)
 ·cases h;exact .inl (okZ G 114 rfl)
 ·cases h;exact .inl (okZ G 115 rfl)
 ·cases h;exact .inl (okZ G 116 rfl)
 ·cases h;exact .inl (okZ G 117 rfl)
 ·cases h;exact .inl (okZ G 118 rfl)
 ·cases h;exact .inl (okZ G 119 rfl)
 ·cases h;exact .inl (okZ G 120 rfl)
 ·cases h;exact .inl (okZ G 121 rfl)
 ·cases h;exact .inl (okZ G 122 rfl)
 ·cases h;exact .inl (okZ G 123 rfl)
 ·cases h;exact .inl (okZ G 124 rfl)
 ·cases h;exact .inl (okZ G 125 rfl)
 ·cases h;exact .inl (okZ G 126 rfl)
 ·cases h;exact .inl (okZ G 127 rfl)
 ·cases h;exact .inl (okZ G 128 rfl)
 ·cases h;exact .inl (okZ G 129 rfl)
 ·cases h;exact .inl (okZ G 130 rfl)
 ·cases h;exact .inl (okZ G 131 rfl)
 ·cases h;exact .inl (okZ G 132 rfl)
 ·cases h;exact .inl (okZ G 133 rfl)
 ·cases h;exact .inl (okZ G 134 rfl)
 ·cases h;exact .inl (okZ G 135 rfl)
 ·cases h;exact .inl (okZ G 136 rfl)
 ·cases h;exact .inl (okZ G 137 rfl)
 ·cases h;exact .inl (okZ G 138 rfl)
 ·cases h;exact .inl (okZ G 139 rfl)
 ·cases h;exact .inl (okZ G 140 rfl)
 ·cases h;exact .inl (okZ G 141 rfl)
 ·cases h;exact .inl (okZ G 142 rfl)
 ·cases h;exact .inl (okZ G 143 rfl)
 ·cases h;exact .inl (okZ G 144 rfl)
 ·cases h;exact .inl (okZ G 145 rfl)
 ·cases h;exact .inr (.inr (.inr (.inl ⟨by kernel_rfl,rfl,ZDH hG⟩)))
 ·cases h;exact .inl (okZ G 146 rfl)
 ·cases h;exact .inl (okZ G 147 rfl)
 ·cases h;exact .inl (okZ G 148 rfl)
 ·cases h;exact .inl (okZ G 149 rfl)
 ·cases h;exact .inl (okZ G 150 rfl)
 ·cases h;exact .inl (okZ G 151 rfl)
 ·cases h;exact .inl (okZ G 152 rfl)
 ·cases h;exact .inl (okZ G 153 rfl)
 ·cases h;exact .inl (okZ G 154 rfl)
 ·cases h;exact .inl (okZ G 155 rfl)
 ·cases h;exact .inl (okZ G 156 rfl)
 ·cases h;exact .inl (okZ G 157 rfl)
 ·cases h;exact .inl (okZ G 158 rfl)
 ·cases h
theorem ZG6 (G:Z1) (hG:Zrl G):∀f fn,ctx.code f=some fn->Zup Tryz.prog G (fun N=>ZlS Tryz.prog G N) f fn=true∨Zpl Tryz.prog G f fn:=ZE7 G hG
theorem ZHc (G:Z1) (hG:Zrl G):ZeF Tryz.prog G (evW ctx):=ZzW (ZG6 G hG)
end Go.Proofs.YtgcfmiajkbbmeaaGreat
namespace Go.Proofs.YtgcfmiajkbbmeaaGreatE
open Go
open Go.IntKind (u64 i64 u32 i32 u8)
open Nat (zero_le)
open List (length_drop length_map drop_zero)
section
inductive Lf where
 | bool | int (k:IntKind) | str | sl (ag:Bool) (els:List Lf)
mutual
def ZDI:Lf->D->Prop
 | .bool,x=>∃b,x = .bool b
 | .int k,x=>∃n,x = .int k n/\(Lit.int k n).wf=true
 | .str,x=>∃s,x = .str s/\s.size<=maxLen
 | .sl ag els,x=>∃xs,x = .list true xs/\xs.length<=maxLen/\∀y∈xs,y.isAgg=ag/\Ze8 els y.cells
def Ze8:List Lf->List D->Prop
 | [],ds=>ds=[]
 | l :: ls,ds=>∃d r,ds=d :: r/\ZDI l d/\Ze8 ls r
end
def Zkw (P:Program) (g:TypeId->Option (List Lf×Bool)):Nat->List Field->Option (List Lf)
 | _,[]=>some []
 | off,f :: fs=>match g f.type with
  | some (l,_)=>(match Zkw P g (off+l.length) fs with
   | some r=>bif Nat.beq f.offset off&&Nat.beq (P.cellsOf f.type) l.length then some (l++r) else none
   | none=>none)
  | none=>none
def lfs (P:Program):Nat->TypeId->Option (List Lf×Bool)
 | 0,_=>none
 | n+1,t=>match P.underlying t with
  | some .bool=>some ([.bool],false)
  | some (.int k)=>some ([.int k],false)
  | some .string=>some ([.str],false)
  | some (.slice e)=>(match lfs P n e with | some (l,ag)=>bif Nat.beq (P.cellsOf e) l.length&&Nat.blt 0 l.length then some ([.sl ag l],false) else none | none=>none)
  | some (.struct fs)=>(match Zkw P (lfs P n) 0 fs.toList with | some l=>bif Nat.beq (P.cellsOf t) l.length then some (l,true) else none | none=>none)
  | _=>none
mutual
theorem ZvJ:∀(l:Lf) (x:D),ZDI l x->x.esc=true/\x.isAgg=false/\x.cells=[x]
 | .bool,x,h=>by obtain⟨b,rfl⟩:=h;exact⟨rfl,rfl,rfl⟩
 | .int k,x,h=>by obtain⟨n,rfl,_⟩:=h;exact⟨rfl,rfl,rfl⟩
 | .str,x,h=>by obtain⟨s,rfl,_⟩:=h;exact⟨rfl,rfl,rfl⟩
 | .sl ag els,x,h=>by obtain⟨xs,rfl,_⟩:=h;exact⟨rfl,rfl,rfl⟩
theorem ZtH:∀(ls:List Lf) (ds:List D),Ze8 ls ds->D.escs ds=true/\ds.length=ls.length
 | [],ds,h=>by obtain rfl:=h;exact⟨rfl,rfl⟩
 | l :: ls,ds,h=>by
  obtain⟨d,r,rfl,h1,h2⟩:=h
  obtain⟨e1,e2,_⟩:=ZvJ l d h1
  obtain⟨e3,e4⟩:=ZtH ls r h2
  exact⟨by simp[D.escs,e1,e2,e3],by simp[e4]⟩
end
theorem Ztr:∀(l r:List Lf) (ds es:List D),Ze8 l ds->Ze8 r es->Ze8 (l++r) (ds++es)
 | [],r,ds,es,h,k=>by obtain rfl:=h;exact k
 | a :: l,r,ds,es,h,k=>by
  obtain⟨d,ds',rfl,h1,h2⟩:=h
  exact⟨d,ds'++es,rfl,h1,Ztr l r ds' es h2 k⟩
section
variable {H:Type} {enc:TypeId×Value->H} {P:Program} {W:World} {sp:Nat->Bool} {held:Bool}
abbrev All:Nat->Prop:=fun _=>True
theorem Ztu:∀(ds es:List D) (us vs:List Value),Z6 All All All W ds us->Z6 All All All W es vs->Z6 All All All W (ds++es) (us++vs)
 | [],es,us,vs,h,k=>by obtain rfl:=h;exact k
 | x :: ds,es,us,vs,h,k=>by
  obtain⟨u,us',rfl,h1,h2⟩:=h
  exact⟨u,us'++vs,rfl,h1,Ztu ds es us' vs h2 k⟩
theorem Zvf {a:Addr}{n:Nat}{cs:List Value} (h:W.cells? 0 a n=some cs):cs.length=n/\∀k,k<n->W.cell? (a.add k)=cs[k]?:=by
 unfold World.cells? at h
 rw[if_pos (zero_le _)] at h
 exact⟨by simpa using mapM_some_length h,fun k hk=>mapM_some_get h k k (by simp[hk])⟩
theorem Zs1 {g:TypeId->Option (List Lf×Bool)}{m:Nat}{cs:List Value}
  (hg:∀t l ag cs x,g t=some (l,ag)->DataW.trod enc P W 0 sp held m t cs=some x->∃ds,Z6 All All All W ds cs/\Ze8 l ds) :
  ∀(fs:List Field) (off:Nat) (l:List Lf) (xs:List (DataW H×List MemPlace)),Zkw P g off fs=some l->xs.length=fs.length->off+l.length<=cs.length ->
   (∀(i:Nat) f,fs[i]? = some f->DataW.trod enc P W 0 sp held m f.type ((cs.drop f.offset).take (P.cellsOf f.type))=xs[i]?)->∃ds,Z6 All All All W ds ((cs.drop off).take l.length)/\Ze8 l ds
 | [],off,l,xs,h,_,_,_=>by
  simp only[Zkw,sJ] at h
  subst h
  exact⟨[],by simp[Z6],rfl⟩
 | f :: fs,off,l,xs,h,hl,hle,hx=>by
  simp only[Zkw] at h
  cases hgf:g f.type with
  | none=>rw[hgf] at h;cases h
  | some q=>
   obtain⟨l1,ag⟩:=q
   rw[hgf] at h
   dsimp only at h
   cases hr:Zkw P g (off+l1.length) fs with
   | none=>rw[hr] at h;cases h
   | some r=>
    rw[hr] at h
    dsimp only at h
    cases hc:(Nat.beq f.offset off&&Nat.beq (P.cellsOf f.type) l1.length) with
    | false=>rw[hc] at h;cases h
    | true=>
     rw[hc] at h
     simp only[cT,sJ] at h
     subst h
     simp only[aT] at hc
     have h1:=nQ hc.1
     have h2:=nQ hc.2
     rw[lA] at hle
     cases xs with
     | nil=>simp at hl
     | cons x xs=>
      have hx0:=hx 0 f rfl
      rw[h1,h2] at hx0
      simp only[List.getElem?_cons_zero] at hx0
      obtain⟨d1,e1,e2⟩:=hg f.type l1 ag _ x hgf hx0
      obtain⟨d2,e3,e4⟩:=Zs1 (cs:=cs) hg fs (off+l1.length) r xs hr (by simpa using hl) (by omega) (fun i f' hf'=>by simpa using hx (i+1) f' (by simpa using hf'))
      refine⟨d1++d2,?_,Ztr _ _ _ _ e2 e4⟩
      have hspl:(cs.drop off).take (l1++r).length=(cs.drop off).take l1.length++(cs.drop (off+l1.length)).take r.length:=by
       rw[lA,List.take_add,List.drop_drop]
      rw[hspl]
      exact Ztu _ _ _ _ e1 e3
theorem Zse:∀(n:Nat) (t:TypeId) (l:List Lf) (ag:Bool),lfs P n t=some (l,ag)->∀(fuel:Nat) (cs:List Value) (x:DataW H×List MemPlace),DataW.trod enc P W 0 sp held fuel t cs=some x ->
  ∃ds,Z6 All All All W ds cs/\Ze8 l ds/\(ag=false->∃u y,cs=[u]/\ds=[y]/\u.cells = #[u]/\y.isAgg=false)
 | 0,t,l,ag,h,fuel,cs,x,hx=>by cases h
 | n+1,t,l,ag,h,fuel,cs,x,hx=>by
  simp only[lfs] at h
  split at h
  ·rename_i ht
   cases h
   obtain⟨b,rfl,_⟩:=DataW.trod_bool ht hx
   exact⟨[.bool b],⟨_,_,rfl,rfl,rfl⟩,⟨_,_,rfl,⟨b,rfl⟩,rfl⟩,fun _=>⟨_,_,rfl,rfl,rfl,rfl⟩⟩
  ·rename_i k ht
   cases h
   obtain⟨m,rfl,_,hw⟩:=DataW.trod_int ht hx
   exact⟨[.int k m],⟨_,_,rfl,rfl,rfl⟩,⟨_,_,rfl,⟨m,rfl,hw⟩,rfl⟩,fun _=>⟨_,_,rfl,rfl,rfl,rfl⟩⟩
  ·rename_i ht
   cases h
   obtain⟨s,rfl,_,hs⟩:=DataW.trod_string ht hx
   exact⟨[.str s],⟨_,_,rfl,rfl,rfl⟩,⟨_,_,rfl,⟨s,rfl,hs⟩,rfl⟩,fun _=>⟨_,_,rfl,rfl,rfl,rfl⟩⟩
  ·rename_i e ht
   cases he:lfs P n e with
   | none=>rw[he] at h;cases h
   | some q=>
    obtain⟨le,age⟩:=q
    rw[he] at h
    dsimp only at h
    cases hc:(Nat.beq (P.cellsOf e) le.length&&Nat.blt 0 le.length) with
    | false=>rw[hc] at h;cases h
    | true=>
     rw[hc] at h
     simp only[cT,sJ,pJ] at h
     obtain⟨rfl,rfl⟩:=h
     simp only[aT] at hc
     have hsz:=nQ hc.1
     have hpos:0<le.length:=by have:=hc.2;simp[Nat.blt] at this;omega
     rcases Go.Deep.open_slice ht hx with⟨rfl,_⟩ | ⟨a,len,cap,m,fu,Dd,Pl,rfl,_,hlc,hcap,hm,_,hel⟩
     ·exact⟨[.list true []],⟨_,_,rfl,⟨_,0,0,rfl,rfl,Nat.le_refl _,by simp,by simp⟩,rfl⟩,⟨_,_,rfl,⟨[],rfl,by simp,by simp⟩,rfl⟩,fun _=>⟨_,_,rfl,rfl,rfl,rfl⟩⟩
     ·rw[hsz] at hel
      have hlm:len<=m:=by rw[hm];split<;>omega
      have each:∀i,i<len->∃y u,Zaf All All All W y u/\y.isAgg=age/\Ze8 le y.cells/\u.cells.size=le.length/\(∀k v,u.cells[k]? = some v->W.cell? ((a.add (i*le.length)).add k)=some v)/\y.esc=true:=fun i hi=>by
       obtain⟨cs',h1,h2⟩:=hel i (by omega)
       obtain⟨c1,c2⟩:=Zvf h1
       obtain⟨ds,d1,d2,d3⟩:=Zse n e le age he fu cs' _ h2
       obtain⟨s1,s2⟩:=ZtH _ _ d2
       cases age with
       | true=>
        refine⟨.agg ds,.agg cs'.toArray,⟨cs',rfl,d1⟩,rfl,d2,by simpa [Value.cells] using c1,fun k v hk=>?_,s1⟩
        have hk':cs'[k]? = some v:=by simpa [Value.cells] using hk
        rw[c2 k (by rw[<- c1];exact(gQ hk').1)];exact hk'
       | false=>
        obtain⟨u,y,rfl,rfl,e1,e2⟩:=d3 rfl
        obtain⟨u',us',f1,f2,_⟩:=d1
        cases f1
        have hy:y.cells=[y]:=by
         cases y<;>first | rfl | (simp[D.isAgg] at e2)
        have hesc:y.esc=true:=by
         match le,d2,hpos with
         | l0 :: ls,d2,_=>
          obtain⟨d,r,g1,g2,_⟩:=d2
          cases g1
          exact(ZvJ l0 y g2).1
        refine⟨y,u,f2,e2,by rw[hy];exact d2,by rw[e1,<- c1];rfl,fun k v hk=>?_,hesc⟩
        rw[e1] at hk
        have hk0:k=0:=by
         have:=(Array.getElem?_eq_some_iff.1 hk).1;simp at this;exact this
        subst hk0
        simp at hk;subst hk
        rw[c2 0 (by omega)];rfl
      have all:∀j,j<=len->∃ys:List D,ys.length=j/\(∀y∈ys,y.isAgg=age/\Ze8 le y.cells/\y.esc=true)/\∀(i:Nat) y,ys[i]? = some y->∃u,Zaf All All All W y u/\u.cells.size=le.length/\∀k v,u.cells[k]? = some v->W.cell? ((a.add (i*le.length)).add k)=some v:=by
       intro j
       induction j with
       | zero=>intro _;exact⟨[],rfl,by simp,by simp⟩
       | succ j ih=>
        intro hj
        obtain⟨ys,y1,y2,y3⟩:=ih (by omega)
        obtain⟨y,u,z1,z2,z3,z4,z5,z6⟩:=each j (by omega)
        refine⟨ys++[y],by simp[y1],fun z hz=>?_,fun i z hz=>?_⟩
        ·rcases List.mem_append.1 hz with hz | hz
         ·exact y2 z hz
         ·simp at hz;subst hz;exact⟨z2,z3,z6⟩
        ·by_cases hi:i<ys.length
         ·rw[List.getElem?_append_left hi] at hz;exact y3 i z hz
         ·rw[List.getElem?_append_right (by omega)] at hz
          have hij:i-ys.length=0:=by
           have:=(gQ hz).1;simp at this;omega
          rw[hij] at hz
          simp at hz;subst hz
          have:i=j:=by omega
          subst this
          exact⟨u,z1,z4,z5⟩
      obtain⟨ys,y1,y2,y3⟩:=all len (Nat.le_refl _)
      refine⟨[.list true ys],⟨_,_,rfl,⟨_,len,cap,rfl,y1.symm,hlc,fun z hz=>(y2 z hz).2.2,fun hne=>?_⟩,rfl⟩,⟨_,_,rfl,⟨ys,rfl,by omega,fun z hz=>⟨(y2 z hz).1,(y2 z hz).2.1⟩⟩,rfl⟩,fun _=>⟨_,_,rfl,rfl,rfl,rfl⟩⟩
      have hlen:0<len:=by
       rw[<- y1];exact List.length_pos_iff.2 hne
      obtain⟨cs0,h1,_⟩:=hel 0 (by omega)
      obtain⟨c1,c2⟩:=Zvf h1
      have c3:=c2 0 hpos
      have hcell:∃v,W.cell? a=some v:=by
       refine⟨cs0[0]'(by omega),?_⟩
       have e0:(a.add (0*le.length)).add 0=a:=by simp[Addr.add]
       rw[e0] at c3
       rw[c3];exact gE (by omega)
      obtain⟨v,hv⟩:=hcell
      have hspot:a.spot=none/\a.block<W.heap.size:=by
       unfold World.cell? at hv
       split at hv
       ·rename_i hb
        cases hsx:a.spot with
        | none=>exact⟨rfl,(Array.getElem?_eq_some_iff.1 hb).1⟩
        | some z=>rw[hsx] at hv;simp at hv
       ·cases hv
      obtain⟨b,off,spot⟩:=a
      obtain⟨hs1,hs2⟩:=hspot
      simp only at hs1 hs2
      subst hs1
      refine⟨b,off,le.length,rfl,trivial,hs2,Zh6 ys off fun j y hj=>?_⟩
      obtain⟨u,u1,u2,u3⟩:=y3 j y hj
      refine⟨u,u1,u2,fun k v hk=>?_⟩
      rw[<- u3 k v hk]
      congr 1
      unfold Addr.add
      by_cases hj0:j*le.length=0
      ·by_cases hk0:k=0<;>simp[hj0,hk0]
      ·by_cases hk0:k=0<;>simp[hj0,hk0]
  ·rename_i fs ht
   cases hf:Zkw P (lfs P n) 0 fs.toList with
   | none=>rw[hf] at h;cases h
   | some l'=>
    rw[hf] at h
    dsimp only at h
    cases hc:Nat.beq (P.cellsOf t) l'.length with
    | false=>rw[hc] at h;cases h
    | true=>
     rw[hc] at h
     simp only[cT,sJ,pJ] at h
     obtain⟨rfl,rfl⟩:=h
     have hcl:=nQ hc
     obtain⟨xs,m,_,_,hlen,hxl,hxs⟩:=DataW.trod_struct ht hx
     have hlen':cs.length=l'.length:=hlen.trans hcl
     obtain⟨ds,e1,e2⟩:=Zs1 (m:=m) (cs:=cs) (g:=lfs P n) (fun t l ag cs x hg hx=>by
      obtain⟨ds,d1,d2,_⟩:=Zse n t l ag hg m cs x hx
      exact⟨ds,d1,d2⟩) fs.toList 0 l' xs hf (by simpa using hxl) (by omega) (fun i f hf'=>hxs i f (by simpa using hf'))
     refine⟨ds,?_,e2,fun h=>by cases h⟩
     have:(cs.drop 0).take l'.length=cs:=by rw[drop_zero,List.take_of_length_le (by omega)]
     rw[this] at e1;exact e1
  ·cases h
def ZkF (ag:Bool) (ds:List D):D:=match ag,ds with | true,ds=>.agg ds | false,d :: _=>d | false,[]=>.nilp
theorem Zrs {n:Nat}{t:TypeId}{l:List Lf}{ag:Bool} (h:lfs P n t=some (l,ag)) {base:Nat}{v:Value}{d:DataW H}{ps:List MemPlace} (hv:Value.okWide P W .any base t v) (hx:DataW.Trod enc P W 0 sp held t v d ps) :
  ∃ds,Ze8 l ds/\Zaf All All All W (ZkF ag ds) v:=by
 obtain⟨fuel,hf⟩:=hx
 obtain⟨ds,d1,d2,d3⟩:=Zse n t l ag h fuel _ _ hf
 refine⟨ds,d2,?_⟩
 have one:ag=false->v.cells = #[v]->Zaf All All All W (ZkF ag ds) v:=fun hag hc=>by
  subst hag
  obtain⟨u,y,e1,rfl,_,_⟩:=d3 rfl
  rw[hc] at e1
  cases e1
  obtain⟨u',us',f1,f2,_⟩:=d1
  rw[hc] at f1
  cases f1
  exact f2
 cases n with
 | zero=>cases h
 | succ n=>
  simp only[lfs] at h
  split at h
  ·rename_i ht
   cases h
   obtain⟨b,rfl⟩:=Go.WideShapes.okWide_bool ht hv
   exact one rfl rfl
  ·rename_i k ht
   cases h
   obtain⟨b,rfl⟩:=Go.WideShapes.okWide_int ht hv
   exact one rfl rfl
  ·rename_i ht
   cases h
   obtain⟨b,rfl⟩:=Go.WideShapes.okWide_string ht hv
   exact one rfl rfl
  ·rename_i e ht
   obtain⟨a,len,cap,rfl⟩:=Go.WideShapes.okWide_slice ht hv
   split at h
   ·rename_i le age hq
    cases hc:(Nat.beq (P.cellsOf e) le.length&&Nat.blt 0 le.length) with
    | false=>rw[hc] at h;cases h
    | true=>rw[hc] at h;cases h;exact one rfl rfl
   ·cases h
  ·rename_i fs ht
   obtain⟨cs,rfl,_⟩:=Go.WideShapes.okWide_struct ht hv
   split at h
   ·rename_i q hq
    cases hc:Nat.beq (P.cellsOf t) q.length with
    | false=>rw[hc] at h;cases h
    | true=>
     rw[hc] at h
     cases h
     exact⟨cs.toList,by simp,by simpa [Value.cells] using d1⟩
   ·cases h
  ·cases h
end
end
section
def R0:RP:={ B1:=fun _=>False,B0:=fun _=>False,M:=fun _=>none,H:=[] }
section
variable {P:Program} {G:Z1} {Γ:Ctx} {W:World}
theorem Zk1 (c:Nat):¬R0.live c:=by
 rintro ⟨i,h,_⟩
 simp[R0,ZN,nth] at h
theorem ZGf:R0.OK W where
 b01:=fun c h=>h.elim
 al:=fun i blk h=>by simp[R0] at h
 inj:=fun i j c h=>by simp[R0,ZN,nth] at h
 lt:=fun i c h=>by cases h
 blk:=fun i m blk h=>by simp[R0] at h
 nb:=fun i c h=>by simp[R0,ZN,nth] at h
 bl:=fun c h=>h.elim
theorem ZE2 {x:D}{u:Value} (h:Zaf All All All W x u):R0.den W x u:=
 Zaf.change _ _ _ _ (fun b _ _=>⟨Zk1 b,fun h=>h⟩) (fun b _ _=>⟨Zk1 b,fun h=>h⟩) (fun b _ _=>Zk1 b) (fun _ _ _=>rfl) (Nat.le_refl _) (fun _ _=>trivial) (fun _ _=>trivial) x u h
theorem ZDt {xs:List D}{us:List Value} (h:Z6 All All All W xs us):ZY R0 W (ZbM xs) us:=
 (ZcC xs us).2 (Z6.change _ _ _ _ (fun b _ _=>⟨Zk1 b,fun h=>h⟩) (fun b _ _=>⟨Zk1 b,fun h=>h⟩) (fun b _ _=>Zk1 b) (fun _ _ _=>rfl) (Nat.le_refl _) (fun _ _=>trivial) (fun _ _=>trivial) xs us h)
theorem Zzl (hs:ZeF P G (evW Γ)) (hg:GOK G R0 W) {f:Nat}{xs:List D}{us:List Value} (hd:Z6 All All All W xs us) {H':Zi} (he:evW Γ f (ZbM xs) []=some (.d (.bool true),H')) :
  Calls P f us.toArray W fun e W'=>e = .returned (.bool true)/\Go.RowKit.Below W.heap.size W W':=by
 obtain⟨_,h⟩:=hs f (ZbM xs) [] _ _ he
 refine(h R0 W us ZGf hg rfl (fun i _=>rfl) (ZDt hd)).mono fun e W' ⟨u,h1,R',x,ok,hH,hv,_,_⟩=>?_
 have hu:u = .bool true:=hv
 subst hu
 exact⟨h1,⟨x.os,x.tape,x.output,x.grow,fun k hk=>x.same k hk (Zk1 k)⟩⟩
end
end
section
noncomputable def bnd {α β:Type} (x:Option α) (k:α->Option β):Option β:=@dite _ (∃a,x=some a) (Classical.propDecidable _) (fun h=>k (Classical.choose h)) fun _=>none
theorem Zd1 {α β:Type} (x:Option α) (k:α->Option β):bnd x k=(match x with | some a=>k a | none=>none):=by
  unfold bnd
  cases x with
  | none=>exact dif_neg (fun⟨a,h⟩=>by cases h)
  | some a=>
    have h:∃b,some a=some b:=⟨a,rfl⟩
    rw[dif_pos h]
    have:=Classical.choose_spec h
    rw[<- Option.some.inj this]
theorem Zkk {α β:Type} (a:α) (k:α->Option β):bnd (some a) k=k a:=Zd1 _ _
section
variable {β:Type}
def ZIh:List Nat:=[0,1,2,3,4,5,6,7,8,9,10,11,12,13,14,15,16,17,18,19,20,21,22,23,24,25,26,27,28,29,30,31,32,33,34,35,36,37,38,39,40,41,42,43,44,45,46,47,48,49,50,51,52,53,54,55,56,57,58,59,60,61,62,63]
def fgo (n:Nat) (k:Nat->Option β):List Nat->Option β
  | []=>k n
  | a :: l=>match Nat.beq n a with | true=>k a | false=>fgo n k l
def Zce (n:Nat) (k:Nat->Option β):Option β:=fgo n k ZIh
def ZhZ (v:V) (k:V->Option β):Option β:=
  match v with
  | .d x=>k (.d x) | .bad=>k .bad | .ptr b o=>Zce b fun b=>Zce o fun o=>k (.ptr b o) | .eptr b sz i j=>Zce b fun b=>Zce j fun j=>k (.eptr b sz i j)
  | .sl b sz=>Zce b fun b=>k (.sl b sz) | .slp b sz o l=>Zce b fun b=>k (.slp b sz o l) | .nilsl sz=>k (.nilsl sz)
  | .agg cs=>k (.agg cs) | .tup cs=>k (.tup cs) | .fn f cs=>k (.fn f cs) | .mp b=>Zce b fun b=>k (.mp b) | .ch b=>Zce b fun b=>k (.ch b)
def Zkc (l:List V) (k:List V->Option β):Option β:=
  match l with
  | []=>k []
  | v :: vs=>ZhZ v fun v=>Zkc vs fun vs=>k (v :: vs)
def ZtT (v:V) (k:V->Option β):Option β:=
  match v with
  | .d x=>k (.d x) | .bad=>k .bad | .ptr b o=>ZhZ (.ptr b o) k | .eptr b sz i j=>ZhZ (.eptr b sz i j) k
  | .sl b sz=>ZhZ (.sl b sz) k | .slp b sz o l=>ZhZ (.slp b sz o l) k | .nilsl sz=>k (.nilsl sz)
  | .agg cs=>Zkc cs fun cs=>k (.agg cs) | .tup cs=>Zkc cs fun cs=>k (.tup cs) | .fn f cs=>Zkc cs fun cs=>k (.fn f cs) | .mp b=>ZhZ (.mp b) k | .ch b=>ZhZ (.ch b) k
def ZiZ (l:List V) (k:List V->Option β):Option β:=
  match l with
  | []=>k []
  | v :: vs=>ZtT v fun v=>ZiZ vs fun vs=>k (v :: vs)
def Zwa (b:Blk) (k:Blk->Option β):Option β:=
  match b with
  | .dead=>k .dead | .cells cs=>ZiZ cs fun cs=>k (.cells cs) | .arr sz xs=>k (.arr sz xs) | .mp es=>k (.mp es) | .ch xs=>k (.ch xs)
def Zlw (H:Zi) (k:Zi->Option β):Option β:=
  match H with
  | []=>k []
  | b :: bs=>Zwa b fun b=>Zlw bs fun bs=>k (b :: bs)
theorem ZB1 (n:Nat) (k:Nat->Option β):∀(l:List Nat),fgo n k l=k n
  | []=>rfl
  | a :: l=>by
    unfold fgo
    cases h:Nat.beq n a with
    | true=>rw[nQ h]
    | false=>exact ZB1 n k l
theorem ZcT (n:Nat) (k:Nat->Option β):Zce n k=k n:=ZB1 n k _
theorem Zra (v:V) (k:V->Option β):ZhZ v k=k v:=by cases v<;>simp[ZhZ,ZcT]
theorem Zqd:∀(l:List V) (k:List V->Option β),Zkc l k=k l
  | [],k=>rfl
  | v :: vs,k=>by unfold Zkc;rw[Zra,Zqd vs]
theorem ZtS (v:V) (k:V->Option β):ZtT v k=k v:=by cases v<;>simp[ZtT,Zra,Zqd]
theorem Ziu:∀(l:List V) (k:List V->Option β),ZiZ l k=k l
  | [],k=>rfl
  | v :: vs,k=>by unfold ZiZ;rw[ZtS,Ziu vs]
theorem Zzi (b:Blk) (k:Blk->Option β):Zwa b k=k b:=by cases b<;>simp[Zwa,Ziu]
theorem Zj9:∀(l:Zi) (k:Zi->Option β),Zlw l k=k l
  | [],k=>rfl
  | v :: vs,k=>by unfold Zlw;rw[Zzi,Zj9 vs]
def Zku (l:List Nat) (k:List Nat->Option β):Option β:=
  match l with
  | []=>k []
  | a :: l=>Zce a fun a=>Zku l fun l=>k (a :: l)
theorem Zks:∀(l:List Nat) (k:List Nat->Option β),Zku l k=k l
  | [],k=>rfl
  | a :: l,k=>by unfold Zku;rw[ZcT,Zks l]
def Zml (H:Zi) (l:List Nat) (bs:List Nat) (k:List Nat->Option β):Option β:=
  match bs with
  | []=>k l
  | b :: bs=>(match ZhC l b || !(ZN H b) with
    | true=>Zml H l bs k
    | false=>Zku (l++[b]) fun l=>Zml H l bs k)
theorem Zkt (H:Zi):∀(bs l:List Nat) (k:List Nat->Option β),Zml H l bs k=k (Zfw H l bs)
  | [],l,k=>rfl
  | b :: bs,l,k=>by
    unfold Zml Zfw
    cases h:(ZhC l b || !(ZN H b)) with
    | true=>exact Zkt H bs l k
    | false=>simp only[Zks,cF];exact Zkt H bs _ k
def Zuf (H:Zi) (n i:Nat) (l:List Nat) (k:List Nat->Option β):Option β:=
  match n with
  | 0=>k l
  | n+1=>(match nth l i with
    | some b=>Zku (Zx6 H b) fun bs=>Zml H l bs fun l=>Zce (i+1) fun i=>Zuf H n i l k
    | none=>k l)
theorem Ztd (H:Zi):∀(n i:Nat) (l:List Nat) (k:List Nat->Option β),Zuf H n i l k=k (ZlY H n i l)
  | 0,i,l,k=>rfl
  | n+1,i,l,k=>by
    unfold Zuf ZlY
    cases h:nth l i with
    | none=>rfl
    | some b=>simp only[Zks,ZcT,Zkt];exact Ztd H n (i+1) _ k
def Zd6 (m:Nat) (vs:List V) (H:Zi) (k:List Nat->List V->Zi->Option β):Option β:=
  ZiZ vs fun vs=>Zku (Zof m) fun u=>Zku (Zic vs) fun r=>Zml H u r fun l=>Zuf H (H.length+1) 0 l fun L=>
    (match Zn3 L&&ZsC H.length L with
    | true=>ZiZ (Zii (fun b=>idx L b 0) vs) fun vs=>Zlw (pick H (fun b=>idx L b 0) L) fun H=>k L vs H
    | false=>none)
theorem Zcf (m:Nat) (vs:List V) (H:Zi) (k:List Nat->List V->Zi->Option β):Zd6 m vs H k=(match extract m vs H with | some (L,vs,H)=>k L vs H | none=>none):=by
  unfold Zd6 extract Zoy
  simp only[Ziu,Zks,Zkt,Ztd,Zj9]
  cases (Zn3 (ZlY H (H.length+1) 0 (Zfw H (Zof m) (Zic vs)))&&ZsC H.length (ZlY H (H.length+1) 0 (Zfw H (Zof m) (Zic vs))))<;>rfl
def Znl (n:Nat) (vs:List V) (k:List V->List Blk->Option β):Option β:=
  match vs with
  | []=>k [] []
  | v :: vs=>(match v with
    | .nilsl sz=>(match Nat.blt 0 sz with
      | true=>Zce (n+1) fun n1=>Znl n1 vs fun vs bs=>k (.sl n sz :: vs) (.arr sz [] :: bs)
      | false=>Znl n vs fun vs bs=>k (.nilsl sz :: vs) bs)
    | v=>Znl n vs fun vs bs=>k (v :: vs) bs)
theorem ZjI:∀(vs:List V) (n:Nat) (k:List V->List Blk->Option β),Znl n vs k=k (ZaW n vs).1 (ZaW n vs).2
  | [],n,k=>rfl
  | v :: vs,n,k=>by
    unfold Znl
    split
    · rename_i sz
      simp only[ZaW]
      cases h:Nat.blt 0 sz with
      | true=>simp only[ZcT,cT];exact ZjI vs (n+1) _
      | false=>exact ZjI vs n _
    · rename_i h
      rw[ZjI vs n]
      cases v<;>first | rfl | exact absurd rfl (h _)
def ZoW (n:Nat) (H:Zi) (k:Zi->List Blk->Option β):Option β:=
  match H with
  | []=>k [] []
  | b :: H=>(match b with
    | .cells cs=>Znl n cs fun cs bs=>Zce (n+bs.length) fun n1=>ZoW n1 H fun H q=>k (.cells cs :: H) (bs++q)
    | b=>ZoW n H fun H q=>k (b :: H) q)
theorem Znw:∀(H:Zi) (n:Nat) (k:Zi->List Blk->Option β),ZoW n H k=k (Zbv n H).1 (Zbv n H).2
  | [],n,k=>rfl
  | b :: H,n,k=>by
    unfold ZoW
    cases b<;>first | exact Znw H n _ | skip
    rename_i cs
    simp only[ZjI,ZcT,Zbv]
    exact Znw H _ _
def Zp2 (m:Nat) (vs:List V) (H:Zi) (k:List V->Zi->Option β):Option β:=
  Zd6 m vs H fun _ vs1 H1=>Znl H1.length vs1 fun vs2 bs=>Zce (H1.length+bs.length) fun n=>ZoW n H1 fun H2 q=>Zlw (H2++(bs++q)) fun H2=>Zd6 m vs2 H2 fun _ vs3 H3=>k vs3 H3
theorem Zvs (m:Nat) (vs:List V) (H:Zi) (k:List V->Zi->Option β):Zp2 m vs H k=(match Zqs m vs H with | some (vs,H)=>k vs H | none=>none):=by
  unfold Zp2 Zqs
  rw[Zcf]
  cases h:extract m vs H with
  | none=>rfl
  | some p=>
    obtain⟨L,vs1,H1⟩:=p
    simp only[ZjI,ZcT,Znw,Zj9,Zcf]
    cases extract m (ZaW H1.length vs1).1 ((Zbv (H1.length+(ZaW H1.length vs1).2.length) H1).1++((ZaW H1.length vs1).2++(Zbv (H1.length+(ZaW H1.length vs1).2.length) H1).2))<;>rfl
noncomputable def br (c:Bool) (x y:Option β):Option β:=@ite _ (c=true) (Classical.propDecidable _) x y
theorem Zbp (c:Bool) (x y:Option β):br c x y=bif c then x else y:=by
  unfold br
  cases c with
  | true=>exact if_pos rfl
  | false=>exact if_neg (by simp)
def brL (c:Bool) (x y:Option β):Option β:=match c with | true=>x | false=>y
noncomputable def ZlO (c:Bool) (k:V->Option β):Option β:=br c (k (.d (.bool true))) (k (.d (.bool false)))
theorem ZjR (c:Bool) (k:V->Option β):ZlO c k=k (.d (.bool c)):=by
  unfold ZlO
  rw[Zbp]
  cases c<;>rfl
noncomputable def Ztf (v:V) (k:V->Option β):Option β:=match v with | .d (.bool c)=>ZlO c k | v=>k v
theorem ZvH (v:V) (k:V->Option β):Ztf v k=k v:=by
  unfold Ztf
  split
  · exact ZjR _ _
  · rfl
noncomputable def Zys (x:D) (k:V->Option β):Option β:=match x with | .bool c=>ZlO c k | .tup ts=>k (.tup (ZbM ts)) | x=>k (.d x)
abbrev K3 (β:Type):=V->List (Nat×Blk)->List Blk->Option β
noncomputable def ZDF (op:BinOp) (x y:V) (k:V->Option β):Option β:=
  match op,x,y with
  | .quo,.d (.int i a),.d (.int j b)=>(match i==j with | true=>br (b==0) none (k (.d (.int i (i.wrap (a.tdiv b))))) | false=>none)
  | .rem,.d (.int i a),.d (.int j b)=>(match i==j with | true=>br (b==0) none (k (.d (.int i (a.tmod b)))) | false=>none)
  | .shl,.d (.int i a),.d (.int _ b)=>br (decide (b<0)) none (k (.d (.int i (i.wrap (a*2 ^ (min b.toNat i.bits))))))
  | .shr,.d (.int i a),.d (.int _ b)=>br (decide (b<0)) none (k (.d (.int i (a.fdiv (2 ^ (min b.toNat i.bits))))))
  | op,x,y=>match ZnW op x y with | some (.bool c)=>ZlO c k | some r=>k (.d r) | none=>none
noncomputable def Zxy (H:Zi) (n:Nat) (ag:Bool) (x:V) (k:V->Option β):Option β:=
  match x with
  | .eptr b sz i j=>(match nth H b with
    | some (.arr sz' xs)=>(match Nat.beq sz sz' with
      | true=>bnd (nth xs i) fun x=>(match ZfR n ag (ZbM (x.cells.drop j)) with | some v=>Ztf v k | none=>none)
      | false=>none)
    | _=>none)
  | x=>match Zb5 H n ag x with | some v=>Ztf v k | none=>none
noncomputable def Zuz (H:Zi) (n:Nat) (x v:V) (k:K3 β):Option β:=
  match x with
  | .eptr b sz i j=>(match nth H b with
    | some (.arr sz' xs)=>(match Nat.beq sz sz' with
      | true=>bnd (nth xs i) fun x=>(match fr H 6 v with
        | some (y,ks)=>(match ZhC ks b with
          | true=>none
          | false=>(match Nat.beq y.cells.length n&&Nat.ble (j+n) x.cells.length&&(V.d y).okb&&(x.isAgg || !y.isAgg) with
            | true=>bnd (some (ZbL xs i (bif x.isAgg then .agg (ZS x.cells j y.cells) else y))) fun zs=>k .bad ((b,.arr sz zs) :: ks.map (fun j=>(j,.dead))) []
            | false=>none))
        | none=>none)
      | false=>none)
    | _=>none)
  | x=>match ZkU H n x v with | some (a,b,c)=>k a b c | none=>none
noncomputable def ZtZ (nid:Nat) (H:Zi) (sz:Nat) (x y:V) (k:K3 β):Option β:=
  match elems H y with
  | none=>none
  | some ys=>
    br (Zjz sz ys 0) (match x with
    | .nilsl _=>br (Nat.ble ys.length lim) (bnd (some ys) fun zs=>k (.sl nid sz) [] [.arr sz zs]) none
    | .sl b sz'=>(match nth H b with
      | some (.arr sz'' xs)=>(match Nat.beq sz sz'&&Nat.beq sz sz'' with
        | true=>br (Nat.ble (xs.length+ys.length) lim) (bnd (some (xs++ys)) fun zs=>k (.sl nid sz) [(b,.dead)] [.arr sz zs]) none
        | false=>none)
      | _=>none)
    | .slp b sz' o len=>(match nth H b with
      | some (.arr sz'' xs)=>(match Nat.beq sz sz'&&Nat.beq sz sz'' with
        | true=>br (Nat.ble (o+len+ys.length) xs.length) (bnd (some (xs.take (o+len)++(ys++xs.drop (o+len+ys.length)))) fun zs=>bnd (some (len+ys.length)) fun n=>k (.slp b sz o n) [(b,.arr sz zs)] []) none
        | false=>none)
      | _=>none)
    | _=>none) none
noncomputable def Zoz (H:Zi) (sz:Nat) (x y:V) (k:V->Option β):Option β:=
  match x with
  | .nilsl _=>(match elems H y with
    | some ys=>br (Zjz sz ys 0) (br (Nat.ble ys.length lim) (bnd (some ys) fun zs=>k (.d (.list true zs))) none) none
    | none=>none)
  | _=>none
noncomputable def ZrM (v:Option V) (dflt:Nat) (k:Nat->Option β):Option β:=
  match v with
  | none=>k dflt
  | some (.d (.int _ n))=>br (decide (0<=n)) (k n.toNat) none
  | _=>none
noncomputable def Zt8 (H:Zi) (sz:Nat) (x:V) (lo hi mx:Option V) (k:V->Option β):Option β:=
  match elems H x with
  | none=>none
  | some xs=>
    ZrM lo 0 fun l=>ZrM hi xs.length fun h=>
      br (Nat.ble l h&&Nat.ble h xs.length)
        (match mx with
        | none=>(match x with
          | .d (.list own _)=>br (Nat.beq l 0 || Zjz sz xs l) (bnd (some ((xs.drop l).take (h-l))) fun zs=>k (.d (.list own zs))) none
          | .sl b sz'=>(match Nat.beq sz sz' with | true=>bnd (some l) fun l'=>bnd (some (h-l)) fun n=>k (.slp b sz l' n) | false=>none)
          | .slp b sz' o _=>(match Nat.beq sz sz' with | true=>bnd (some (o+l)) fun l'=>bnd (some (h-l)) fun n=>k (.slp b sz l' n) | false=>none)
          | .nilsl _=>k (.nilsl sz)
          | _=>none)
        | some m=>ZrM (some m) 0 fun m=>br (Nat.beq m l&&Nat.beq m h) (k (.nilsl sz)) none)
        none
noncomputable def Zua (H:Zi) (sz:Nat) (x i:V) (k:V->Option β):Option β:=
  match i with
  | .d (.int _ i)=>(match x with
    | .d (.list _ xs)=>bnd (Zt xs i) fun x=>(match Nat.beq x.cells.length sz&&(V.d x).okb with | true=>k (.d (.rptr x.cells)) | false=>none)
    | .sl b sz'=>(match nth H b with
      | some (.arr sz'' xs)=>(match Nat.beq sz sz'&&Nat.beq sz sz'' with | true=>bnd (Zt xs i) fun _=>k (.eptr b sz i.toNat 0) | false=>none)
      | _=>none)
    | .slp b sz' o len=>(match nth H b with
      | some (.arr sz'' xs)=>(match Nat.beq sz sz'&&Nat.beq sz sz'' with | true=>bnd (Zt ((xs.drop o).take len) i) fun _=>k (.eptr b sz (o+i.toNat) 0) | false=>none)
      | _=>none)
    | _=>none)
  | _=>none
noncomputable def ZtY (len sz:Nat) (ag:Bool) (x i:V) (k:V->Option β):Option β:=
  match i with
  | .d (.int _ i)=>br (x.isAggV&&(decide (0<=i)&&decide (i<len))) (bnd (ZfR sz ag (x.cells.drop (i.toNat*sz))) k) none
  | _=>none
noncomputable def ZqF (H:Zi) (len sz:Nat) (x i:V) (k:V->Option β):Option β:=
  match i with
  | .d (.int _ i)=>br (decide (0<=i)&&decide (i<len)) (match ZkN H (i.toNat*sz) x with | some v=>k v | none=>none) none
  | _=>none
noncomputable def ZqO (x i:V) (k:V->Option β):Option β:=
  match x,i with
  | .d (.str s),.d (.int _ i)=>br (decide (0<=i)) (bnd s[i.toNat]? fun b=>k (.d (.int .u8 b.toNat))) none
  | _,_=>none
noncomputable def ZpW (k:V->Option β) (r:V×Zi):Option β:=match fr r.2 6 r.1 with | some (x,_)=>Zys x k | none=>none
noncomputable def Zp0 (Γ:Ctx) (cf:Zac) (nid:Nat) (H:Zi) (f:Nat) (args:List V) (k:K3 β):Option β:=
  match Ztn Γ f args with
  | 0=>(match fzs H args with
    | some l=>ZiZ (ZbM l) fun l=>bnd (cf f l []) (ZpW fun v=>k v [] [])
    | none=>none)
  | 1=>(match fzs H args with
    | some l=>ZiZ (ZbM l) fun l=>bnd (cf f l []) fun r=>(match ZsG r.1&&Zm8 r.2 with | true=>k (ZnA (fun j=>some (nid+j)) r.1) [] (r.2.map (ZhI (fun j=>some (nid+j)))) | false=>none)
    | none=>none)
  | _ => (Zd6 0 args H fun L args' H0 => bnd (cf f args' H0) fun r => (match Zm3 r.1 && ZjG r.2 with
        | true=>k (ZnA (fun j=>match nth L j with | some b=>some b | none=>some (nid+(j-L.length))) r.1)
          (L.zip (r.2.map (ZhI (fun j=>match nth L j with | some b=>some b | none=>some (nid+(j-L.length))))))
          ((r.2.drop L.length).map (ZhI (fun j=>match nth L j with | some b=>some b | none=>some (nid+(j-L.length)))))
        | false=>none))
noncomputable def ZuH (H:Zi) (ks:List Bool) (m k v:V) (kk:K3 β):Option β:=
  match m,k,v with
  | .mp b,.d k,.d y=>(match nth H b with
    | some (.mp es)=>(match Zbo ks k&&ZhB y with | true=>bnd (Zko es k y) fun l=>kk .bad [(b,.mp l)] [] | false=>none)
    | _=>none)
  | _,_,_=>none
noncomputable def ZuC (H:Zi) (ks:List Bool) (z:D) (m k:V) (kk:K3 β):Option β:=
  match m,k with
  | .mp b,.d k=>(match nth H b with
    | some (.mp es)=>(match Zbo ks k with | true=>bnd (ZDT es k z) fun y=>kk (.d y) [] [] | false=>none)
    | _=>none)
  | _,_=>none
noncomputable def ZAe (H:Zi) (x:V) (k:K3 β):Option β:=bnd (Zts H x) fun q=>br (Nat.ble q.2.length lim) (k .bad [(q.1,.arr 1 ((sortI q.2).map fun n=>.int .i64 n))] []) none
noncomputable def Zxh (nid:Nat) (x:V) (k:K3 β):Option β:=
  match x with
  | .d (.int .i64 n)=>br (decide (0<=n)&&decide (n<=1000)) (k (.ch nid) [] [.ch (Zhl n)]) none
  | _=>none
noncomputable def ZuI (H:Zi) (c x:V) (k:K3 β):Option β:=
  match ZsH H c with
  | some (b,xs)=>(match x with
    | .d (.int .i64 n)=>br (decide (0<=n)&&decide (n<=1000)) (br (Nat.ble n.toNat xs.length) (k (.tup [.d (.list true ((xs.take n.toNat).map fun n=>.int .i64 n)),.d (.bool true)]) [(b,.ch (xs.drop n.toNat))] []) (k (.tup [.d (.list true []),.d (.bool false)]) [(b,.ch [])] [])) none
    | _=>none)
  | none=>none
noncomputable def Zwc (H:Zi) (c:V) (k:K3 β):Option β:=match ZsH H c with | some (_,xs)=>k (.d (.int .i64 xs.length)) [] [] | none=>none
noncomputable def opK (Γ:Ctx) (cf:Zac) (e:Env) (nid:Nat) (H:Zi) (o:O) (k:K3 β):Option β:=
  match o with
  | .mov x=>k (x.val e) [] []
  | .pick c a b=>(match c.val e with | .d (.bool t)=>brL t (k (a.val e) [] []) (k (b.val e) [] []) | _=>none)
  | .load n ag x=>Zxy H n ag (x.val e) fun v=>k v [] []
  | .store n x v=>Zuz H n (x.val e) (v.val e) k
  | .storek n x v _=>Zuz H n (x.val e) (v.val e) k
  | .bin op x y=>ZDF op (x.val e) (y.val e) fun v=>k v [] []
  | .slice sz x lo hi mx=>Zt8 H sz (x.val e) (lo.map (·.val e)) (hi.map (·.val e)) (mx.map (·.val e)) fun v=>k v [] []
  | .iaddr sz x i=>Zua H sz (x.val e) (i.val e) fun v=>k v [] []
  | .index len sz ag x i=>ZtY len sz ag (x.val e) (i.val e) fun v=>k v [] []
  | .iaddrA len sz x i=>ZqF H len sz (x.val e) (i.val e) fun v=>k v [] []
  | .indexS x i=>ZqO (x.val e) (i.val e) fun v=>k v [] []
  | .append sz x y=>ZtZ nid H sz (x.val e) (y.val e) k
  | .appendD sz x y=>Zoz H sz (x.val e) (y.val e) fun v=>k v [] []
  | .eqv ks neg x y=>(match x.val e,y.val e with
    | .d a,.d b=>(match Zbo ks a with | true=>(match eqD a b with | some r=>ZlO (bif neg then !r else r) fun v=>k v [] [] | none=>none) | false=>none)
    | _,_=>none)
  | .un .not x=>(match x.val e with | .d (.bool b)=>brL b (k (.d (.bool false)) [] []) (k (.d (.bool true)) [] []) | _=>none)
  | .extract x i=>(match x.val e with
    | .tup vs=>(match nth vs i with | some (.d (.bool c))=>ZlO c fun v=>k v [] [] | some v=>k v [] [] | none=>none)
    | .d (.tup vs)=>(match nth vs i with | some (.bool c)=>ZlO c fun v=>k v [] [] | some v=>k (.d v) [] [] | none=>none)
    | _=>none)
  | .mkslice sz z n c=>(match n.val e,c.val e with
    | .d (.int _ n),.d (.int _ c)=>br (decide (0<=n)&&decide (n<=lim)&&decide (n==c))
        (bnd (some (List.replicate n.toNat (match z with | [x]=>x | z=>.agg z))) fun zs=>k (.sl nid sz) [] [.arr sz zs]) none
    | _,_=>none)
  | .len x=>(match elems H (x.val e) with | some xs=>bnd (some (xs.length:Int)) fun n=>k (.d (.int .i64 n)) [] [] | none=>none)
  | .call f args=>Zp0 Γ cf nid H f (Zd4 e args) k
  | .callv x args=>(match Zk5 (x.val e) with | some (f,caps)=>(match Zgd Γ (x.val e) f caps with | true=>none | false=>Zp0 Γ cf nid H (Zm5 f) (Zp4 f caps (Zd4 e args)) k) | none=>none)
  | .invoke tab x args=>(match x.val e with
    | .d (.iface t y)=>(match ZlR tab t with | some f=>Zp0 Γ cf nid H f (.d y :: Zd4 e args) k | none=>none)
    | _=>none)
  | .callk f args _=>Zp0 Γ cf nid H f (Zd4 e args) k
  | .spec id args=>(match H,ZkE (Zd4 e args) with | [],some l=>bnd (Zm9 id l) fun r=>k (.d r) [] [] | _,_=>none)
  | .nilq x=>(match elems H (x.val e) with | some xs=>br (Nat.blt 0 xs.length) (k (.d (.bool false)) [] []) none | none=>none)
  | .sortI x=>ZAe H (x.val e) k
  | .chNew x=>Zxh nid (x.val e) k
  | .chTake x n=>ZuI H (x.val e) (n.val e) k
  | .chLen x=>Zwc H (x.val e) k
  | .mkD _ z n c=>(match n.val e,c.val e with
    | .d (.int _ n),.d (.int _ c)=>br (decide (0<=n)&&decide (n<=lim)&&decide (n==c))
        (bnd (some (List.replicate n.toNat (match z with | [x]=>x | z=>.agg z))) fun zs=>k (.d (.list true zs)) [] []) none
    | _,_=>none)
  | .mapset ks m x v=>ZuH H ks (m.val e) (x.val e) (v.val e) k
  | .mapget ks z m x=>ZuC H ks z (m.val e) (x.val e) k
  | o=>match opE Γ cf e nid H o with | some (v,up,nw)=>Ztf v fun v=>k v up nw | none=>none
def on3 (x:Res) (k:K3 β):Option β:=match x with | some (v,up,nw)=>k v up nw | none=>none
theorem ZoO (Γ:Ctx) (cf:Zac) (nid:Nat) (H:Zi) (f:Nat) (args:List V) (k:K3 β):Zp0 Γ cf nid H f args k=on3 (Zgc Γ cf nid H f args) k:=by
  unfold Zp0 Zgc
  generalize Ztn Γ f args=m
  match m with
  | 0=>
    dsimp only
    simp only[Zd1]
    cases h1:fzs H args with
    | none=>rfl
    | some l=>
      simp only[Ziu]
      cases h2:cf f (ZbM l) [] with
      | none=>rfl
      | some r=>
        obtain⟨v,H1⟩:=r
        dsimp only[ZpW]
        cases h3:fr H1 6 v with
        | none=>rfl
        | some q => obtain ⟨x, ks⟩ := q; cases x <;> try rfl
                    exact ZjR _ (fun v=>k v [] [])
  | 1=>
    dsimp only
    simp only[Zd1]
    cases h1:fzs H args with
    | none=>rfl
    | some l=>
      simp only[Ziu]
      cases h2:cf f (ZbM l) [] with
      | none=>rfl
      | some r=>
        dsimp only
        cases h3:(ZsG r.1&&Zm8 r.2)<;>rfl
  | m+2=>
    dsimp only
    simp only[Zd1]
    rw[Zcf]
    cases h1:extract 0 args H with
    | none=>rfl
    | some q=>
      obtain⟨L,args',H0⟩:=q
      dsimp only
      cases h2:cf f args' H0 with
      | none=>rfl
      | some r=>
        dsimp only
        cases h3:(Zm3 r.1&&ZjG r.2)<;>rfl
theorem ZDo (op:BinOp) (x y:V) (k:V->Option β):ZDF op x y k=(match ZnW op x y with | some r=>k (.d r) | none=>none):=by
  unfold ZDF
  split
  · rename_i i a j b
    simp only[ZnW,ZDR]
    cases h:(i==j)<;>simp only[cT,cF,Zbp]
    cases h2:(b==0)<;>rfl
  · rename_i i a j b
    simp only[ZnW,ZDR]
    cases h:(i==j)<;>simp only[cT,cF,Zbp]
    cases h2:(b==0)<;>rfl
  · rename_i i a j b
    simp only[ZnW,shI,Zbp]
    cases h:decide (b<0)<;>rfl
  · rename_i i a j b
    simp only[ZnW,shI,Zbp]
    cases h:decide (b<0)<;>rfl
  · cases h:ZnW op x y with
    | none=>rfl
    | some r => cases r <;> try rfl
                exact ZjR _ _
theorem ZA1 (H:Zi) (n:Nat) (ag:Bool) (x:V) (k:V->Option β):Zxy H n ag x k=(match Zb5 H n ag x with | some v=>k v | none=>none):=by
  unfold Zxy
  simp only[Zd1]
  simp only[ZvH]
  split
  · rename_i b sz i j
    simp only[Zb5]
    cases h:nth H b with
    | none=>rfl
    | some blk=>
      cases blk<;>try rfl
      rename_i sz' xs
      dsimp only
      cases h2:Nat.beq sz sz'<;>simp only[cT,cF]
      cases h3:nth xs i<;>rfl
  · rfl
theorem Ztc (H:Zi) (n:Nat) (x v:V) (k:K3 β):Zuz H n x v k=on3 (ZkU H n x v) k:=by
  unfold Zuz
  simp only[Zd1]
  split
  · rename_i b sz i j
    simp only[ZkU]
    cases h:nth H b with
    | none=>rfl
    | some blk=>
      cases blk<;>try rfl
      rename_i sz' xs
      dsimp only
      cases h2:Nat.beq sz sz'<;>simp only[cT,cF]<;>try rfl
      cases h3:nth xs i with
      | none=>rfl
      | some x=>
        cases h4:fr H 6 v with
        | none=>rfl
        | some q=>
          obtain⟨y,ks⟩:=q
          dsimp only
          cases h5:ZhC ks b<;>simp only[cT,cF]<;>try rfl
          cases h6:(Nat.beq y.cells.length n&&Nat.ble (j+n) x.cells.length&&(V.d y).okb&&(x.isAgg || !y.isAgg))<;>rfl
  · rfl
theorem Zv1 (nid:Nat) (H:Zi) (sz:Nat) (x y:V) (k:K3 β):ZtZ nid H sz x y k=on3 (ZgN nid H sz x y) k:=by
  unfold ZtZ ZgN
  cases h:elems H y with
  | none=>rfl
  | some ys=>
    simp only[Zbp,Zkk]
    cases h0:Zjz sz ys 0<;>simp only[cT,cF]<;>try rfl
    cases x<;>try rfl
    · rename_i b sz'
      dsimp only
      cases h1:nth H b with
      | none=>rfl
      | some blk=>
        cases blk<;>try rfl
        rename_i sz'' xs
        dsimp only
        cases h2:(Nat.beq sz sz'&&Nat.beq sz sz'')<;>simp only[cT,cF]<;>try rfl
        cases h3:Nat.ble (xs.length+ys.length) lim<;>rfl
    · rename_i b sz' o len
      dsimp only
      cases h1:nth H b with
      | none=>rfl
      | some blk=>
        cases blk<;>try rfl
        rename_i sz'' xs
        dsimp only
        cases h2:(Nat.beq sz sz'&&Nat.beq sz sz'')
        · simp only[Bool.false_and,cF];rfl
        · simp only[Bool.true_and,Zbp]
          cases h3:Nat.ble (o+len+ys.length) xs.length<;>rfl
    · dsimp only
      cases h3:Nat.ble ys.length lim<;>rfl
theorem ZvX (H:Zi) (sz:Nat) (x y:V) (k:V->Option β):Zoz H sz x y k=(match ZiN H sz x y with | some v=>k v | none=>none):=by
  unfold Zoz ZiN
  cases x<;>try rfl
  dsimp only
  cases h:elems H y with
  | none=>rfl
  | some ys=>
    simp only[Zbp,Zkk]
    cases h0:Zjz sz ys 0<;>cases h1:Nat.ble ys.length lim<;>rfl
theorem Zzr (v:Option V) (d:Nat) (k:Nat->Option β):ZrM v d k=(match Zhw v d with | some n=>k n | none=>none):=by
  unfold ZrM Zhw
  cases v with
  | none=>rfl
  | some v=>
    cases v<;>try rfl
    rename_i x
    cases x<;>try rfl
    rename_i i n
    dsimp only
    rw[Zbp]
    cases h:decide (0<=n)<;>rfl
theorem Zy4 (H:Zi) (sz:Nat) (x:V) (lo hi mx:Option V) (k:V->Option β):Zt8 H sz x lo hi mx k=(match ZiK H sz x lo hi mx with | some v=>k v | none=>none):=by
  unfold Zt8 ZiK
  cases h:elems H x with
  | none=>rfl
  | some xs=>
    simp only[Zzr]
    cases h1:Zhw lo 0 with
    | none=>rfl
    | some l=>
      cases h2:Zhw hi xs.length with
      | none=>rfl
      | some hh=>
        simp only[Zbp,Zkk]
        cases h3:(Nat.ble l hh&&Nat.ble hh xs.length)<;>simp only[cT,cF]
        cases mx with
        | none=>
          cases x<;>try rfl
          · rename_i x
            cases x<;>try rfl
            dsimp only
            cases h4:(Nat.beq l 0 || Zjz sz xs l)<;>rfl
          · rename_i b sz'
            dsimp only
            cases h4:Nat.beq sz sz'<;>rfl
          · rename_i b sz' o len
            dsimp only
            cases h4:Nat.beq sz sz'<;>rfl
        | some m=>
          dsimp only
          cases h4:Zhw (some m) 0 with
          | none=>rfl
          | some m=>
            dsimp only
            cases h5:(Nat.beq m l&&Nat.beq m hh)<;>rfl
theorem Zzu (H:Zi) (sz:Nat) (x i:V) (k:V->Option β):Zua H sz x i k=(match Zib H sz x i with | some v=>k v | none=>none):=by
  unfold Zua Zib
  simp only[Zd1]
  cases i<;>try rfl
  rename_i i
  cases i<;>try rfl
  rename_i ki i
  cases x<;>try rfl
  · rename_i x
    cases x<;>try rfl
    rename_i own xs
    dsimp only
    cases h:Zt xs i with
    | none=>rfl
    | some x=>
      dsimp only
      cases h2:(Nat.beq x.cells.length sz&&(V.d x).okb)<;>rfl
  · rename_i b sz'
    dsimp only
    cases h1:nth H b with
    | none=>rfl
    | some blk=>
      cases blk<;>try rfl
      rename_i sz'' xs
      dsimp only
      cases h2:(Nat.beq sz sz'&&Nat.beq sz sz'')<;>simp only[cT,cF]
      cases h:Zt xs i<;>rfl
  · rename_i b sz' o len
    dsimp only
    cases h1:nth H b with
    | none=>rfl
    | some blk=>
      cases blk<;>try rfl
      rename_i sz'' xs
      dsimp only
      cases h2:(Nat.beq sz sz'&&Nat.beq sz sz'')<;>simp only[cT,cF]
      cases h:Zt ((xs.drop o).take len) i<;>rfl
theorem ZyV (len sz:Nat) (ag:Bool) (x i:V) (k:V->Option β):ZtY len sz ag x i k=(match Zn2 len sz ag x i with | some v=>k v | none=>none):=by
  unfold ZtY Zn2
  cases i<;>try rfl
  rename_i i
  cases i<;>try rfl
  rename_i ki i
  dsimp only
  rw[Zbp,Zd1]
  cases (x.isAggV&&(decide (0<=i)&&decide (i<(len:Int)))) with
  | false=>rfl
  | true=>simp only[cT];cases ZfR sz ag (List.drop (i.toNat*sz) x.cells)<;>rfl
theorem Zwe (H:Zi) (len sz:Nat) (x i:V) (k:V->Option β):ZqF H len sz x i k=(match ZfT H len sz x i with | some v=>k v | none=>none):=by
  unfold ZqF ZfT
  cases i<;>try rfl
  rename_i i
  cases i<;>try rfl
  rename_i ki i
  dsimp only
  rw[Zbp]
  cases (decide (0<=i)&&decide (i<(len:Int)))<;>rfl
theorem Zv4 (x i:V) (k:V->Option β):ZqO x i k=(match ZkV x i with | some v=>k v | none=>none):=by
  unfold ZqO ZkV
  cases x<;>try rfl
  rename_i x
  cases x<;>try rfl
  rename_i s
  cases i<;>try rfl
  rename_i i
  cases i<;>try rfl
  rename_i ki i
  dsimp only
  rw[Zbp,Zd1]
  cases decide (0<=i) with
  | false=>rfl
  | true=>simp only[cT];cases s[i.toNat]?<;>rfl
theorem ZxI (x:Res) (k:K3 β):(match x with | some (v,up,nw)=>Ztf v fun v=>k v up nw | none=>none)=on3 x k:=by
  cases x with
  | none=>rfl
  | some q=>exact ZvH _ _
theorem ZzD (H:Zi) (x:V) (k:K3 β):ZAe H x k=on3 (Zv0 H x) k:=by
  unfold ZAe Zv0
  cases Zts H x with
  | none=>rw[Zd1];rfl
  | some q=>
    obtain⟨b,zs⟩:=q
    rw[Zkk,Zbp]
    dsimp only
    cases Nat.ble zs.length lim<;>rfl
theorem Zy9 (nid:Nat) (x:V) (k:K3 β):Zxh nid x k=on3 (ZpT nid x) k:=by
  unfold Zxh ZpT
  cases x<;>try rfl
  rename_i y
  cases y<;>try rfl
  rename_i kd n
  cases kd<;>try rfl
  dsimp only
  rw[Zbp]
  cases decide (0<=n)&&decide (n<=1000)<;>rfl
theorem ZwI (H:Zi) (c x:V) (k:K3 β):ZuI H c x k=on3 (Zmi H c x) k:=by
  unfold ZuI Zmi
  cases ZsH H c with
  | none=>rfl
  | some q=>
    obtain⟨b,xs⟩:=q
    dsimp only
    cases x<;>try rfl
    rename_i y
    cases y<;>try rfl
    rename_i kd n
    cases kd<;>try rfl
    dsimp only
    rw[Zbp,Zbp]
    cases decide (0<=n)&&decide (n<=1000) with
    | false=>rfl
    | true=>cases Nat.ble n.toNat xs.length<;>rfl
theorem ZyQ (H:Zi) (c:V) (k:K3 β):Zwc H c k=on3 (match ZqY H c with | some r=>Zba (.d r) | none=>none) k:=by
  unfold Zwc ZqY
  cases ZsH H c<;>rfl
theorem ZwK (H:Zi) (ks:List Bool) (m x v:V) (k:K3 β):ZuH H ks m x v k=on3 (Zob H ks m x v) k:=by
  unfold ZuH Zob
  cases m<;>try rfl
  cases x<;>try rfl
  cases v<;>try rfl
  rename_i b x y
  dsimp only
  cases hb:nth H b with
  | none=>rfl
  | some blk=>
    cases blk<;>try rfl
    rename_i es
    dsimp only
    cases hk:(Zbo ks x&&ZhB y) with
    | false=>rfl
    | true=>
      dsimp only
      rw[Zd1]
      cases hs:Zko es x y<;>rfl
theorem Zw6 (H:Zi) (ks:List Bool) (z:D) (m x:V) (k:K3 β):ZuC H ks z m x k=on3 (match Zmu H ks z m x with | some r=>Zba (.d r) | none=>none) k:=by
  unfold ZuC Zmu
  cases m<;>try rfl
  cases x<;>try rfl
  rename_i b x
  dsimp only
  cases hb:nth H b with
  | none=>rfl
  | some blk=>
    cases blk<;>try rfl
    rename_i es
    dsimp only
    cases hk:Zbo ks x with
    | false=>rfl
    | true=>
      dsimp only
      rw[Zd1]
      cases hs:ZDT es x z<;>rfl
theorem Zub (Γ:Ctx) (cf:Zac) (e:Env) (nid:Nat) (H:Zi) (o:O) (k:K3 β):opK Γ cf e nid H o k=on3 (opE Γ cf e nid H o) k:=by
  cases o<;>try (first | rfl | exact ZxI _ _)
  · rename_i c a b
    show(match c.val e with | .d (.bool t)=>brL t (k (a.val e) [] []) (k (b.val e) [] []) | _=>none)=on3 (match c.val e with | .d (.bool t)=>Zba (bif t then a.val e else b.val e) | _=>none) k
    cases c.val e<;>try rfl
    rename_i x
    cases x<;>try rfl
    rename_i t
    cases t<;>rfl
  · rename_i n ag x
    show Zxy H n ag (x.val e) (fun v=>k v [] [])=on3 (match Zb5 H n ag (x.val e) with | some v=>Zba v | none=>none) k
    rw[ZA1]
    cases h:Zb5 H n ag (x.val e)<;>rfl
  · exact Ztc _ _ _ _ _
  · rename_i op x y
    show ZDF op (x.val e) (y.val e) (fun v=>k v [] [])=on3 (match ZnW op (x.val e) (y.val e) with | some r=>Zba (.d r) | none=>none) k
    rw[ZDo]
    cases h:ZnW op (x.val e) (y.val e)<;>rfl
  · rename_i ks neg x y
    show(match x.val e,y.val e with
      | .d a,.d b=>(match Zbo ks a with | true=>(match eqD a b with | some r=>ZlO (bif neg then !r else r) (fun v=>k v [] []) | none=>none) | false=>none)
      | _,_=>none)=on3 (match x.val e,y.val e with
      | .d a,.d b=>(match Zbo ks a with | true=>(match eqD a b with | some r=>Zba (.d (.bool (bif neg then !r else r))) | none=>none) | false=>none)
      | _,_=>none) k
    cases x.val e<;>try rfl
    rename_i a
    cases y.val e<;>try rfl
    rename_i b
    dsimp only
    cases hn:Zbo ks a<;>try rfl
    dsimp only
    cases h:eqD a b with
    | none=>rfl
    | some r=>exact ZjR _ _
  · rename_i op x
    cases op<;>try (first | rfl | exact ZxI _ _)
    show(match x.val e with | .d (.bool b)=>brL b (k (.d (.bool false)) [] []) (k (.d (.bool true)) [] []) | _=>none)=on3 (match unE .not (x.val e) with | some r=>Zba (.d r) | none=>none) k
    cases x.val e<;>try rfl
    rename_i a
    cases a<;>try rfl
    rename_i b
    cases b<;>rfl
  · rename_i f caps
    cases caps<;>rfl
  · rename_i sz z n c
    show(match n.val e,c.val e with
      | .d (.int _ n),.d (.int _ c)=>br (decide (0<=n)&&decide (n<=lim)&&decide (n==c)) (bnd (some (List.replicate n.toNat (match z with | [x]=>x | z=>.agg z))) fun zs=>k (.sl nid sz) [] [.arr sz zs]) none
      | _,_=>none)=on3 (match n.val e,c.val e with
      | .d (.int _ n),.d (.int _ c)=>bif decide (0<=n)&&decide (n<=lim)&&decide (n==c) then some (.sl nid sz,[],[.arr sz (List.replicate n.toNat (match z with | [x]=>x | z=>.agg z))]) else none
      | _,_=>none) k
    cases n.val e<;>try rfl
    rename_i x
    cases x<;>try rfl
    rename_i i n1
    cases c.val e<;>try rfl
    rename_i x
    cases x<;>try rfl
    rename_i j c1
    dsimp only
    simp only[Zbp,Zkk]
    cases h3:(decide (0<=n1)&&decide (n1<=lim)&&decide (n1==c1))<;>rfl
  · rename_i sz x lo hi mx
    show Zt8 H sz (x.val e) (lo.map (·.val e)) (hi.map (·.val e)) (mx.map (·.val e)) (fun v=>k v [] [])=on3 (match ZiK H sz (x.val e) (lo.map (·.val e)) (hi.map (·.val e)) (mx.map (·.val e)) with | some v=>Zba v | none=>none) k
    rw[Zy4]
    cases h:ZiK H sz (x.val e) (lo.map (·.val e)) (hi.map (·.val e)) (mx.map (·.val e))<;>rfl
  · rename_i sz x i
    show Zua H sz (x.val e) (i.val e) (fun v=>k v [] [])=on3 (match Zib H sz (x.val e) (i.val e) with | some v=>Zba v | none=>none) k
    rw[Zzu]
    cases h:Zib H sz (x.val e) (i.val e)<;>rfl
  · rename_i len sz ag x i
    show ZtY len sz ag (x.val e) (i.val e) (fun v=>k v [] [])=on3 (match Zn2 len sz ag (x.val e) (i.val e) with | some v=>Zba v | none=>none) k
    rw[ZyV]
    cases h:Zn2 len sz ag (x.val e) (i.val e)<;>rfl
  · rename_i x i
    show ZqO (x.val e) (i.val e) (fun v=>k v [] [])=on3 (match ZkV (x.val e) (i.val e) with | some v=>Zba v | none=>none) k
    rw[Zv4]
    cases h:ZkV (x.val e) (i.val e)<;>rfl
  · rename_i len sz x i
    show ZqF H len sz (x.val e) (i.val e) (fun v=>k v [] [])=on3 (match ZfT H len sz (x.val e) (i.val e) with | some v=>Zba v | none=>none) k
    rw[Zwe]
    cases h:ZfT H len sz (x.val e) (i.val e)<;>rfl
  · rename_i x
    show(match elems H (x.val e) with | some xs=>bnd (some (xs.length:Int)) fun n=>k (.d (.int .i64 n)) [] [] | none=>none)=on3 (match Zue H (x.val e) with | some r=>Zba (.d r) | none=>none) k
    unfold Zue
    cases elems H (x.val e) with
    | none=>rfl
    | some xs=>exact Zkk _ _
  · exact Zv1 _ _ _ _ _ _
  · rename_i sz x y
    show Zoz H sz (x.val e) (y.val e) (fun v=>k v [] [])=on3 (match ZiN H sz (x.val e) (y.val e) with | some v=>Zba v | none=>none) k
    rw[ZvX]
    cases h:ZiN H sz (x.val e) (y.val e)<;>rfl
  · rename_i x i
    show(match x.val e with
      | .tup vs=>(match nth vs i with | some (.d (.bool c))=>ZlO c (fun v=>k v [] []) | some v=>k v [] [] | none=>none)
      | .d (.tup vs)=>(match nth vs i with | some (.bool c)=>ZlO c (fun v=>k v [] []) | some v=>k (.d v) [] [] | none=>none)
      | _=>none)=on3 (match x.val e with
      | .tup vs=>(match nth vs i with | some v=>Zba v | none=>none)
      | .d (.tup vs)=>(match nth vs i with | some v=>Zba (.d v) | none=>none)
      | _=>none) k
    cases x.val e<;>try rfl
    · rename_i y
      cases y<;>try rfl
      rename_i vs
      dsimp only
      cases nth vs i with
      | none=>rfl
      | some v => cases v <;> try rfl
                  exact ZjR _ _
    · rename_i vs
      dsimp only
      cases nth vs i with
      | none=>rfl
      | some v => cases v <;> try rfl
                  rename_i y
                  cases y<;>try rfl
                  exact ZjR _ _
  · exact ZoO _ _ _ _ _ _ _
  · rename_i x args
    show(match Zk5 (x.val e) with | some (f,caps)=>(match Zgd Γ (x.val e) f caps with | true=>none | false=>Zp0 Γ cf nid H (Zm5 f) (Zp4 f caps (Zd4 e args)) k) | none=>none)=_
    rw[Zgx]
    cases h:Zk5 (x.val e) with
    | none=>rfl
    | some q=>
      obtain⟨f,caps⟩:=q
      dsimp only
      cases hb:Zgd Γ (x.val e) f caps
      · exact ZoO _ _ _ _ _ _ _
      · rfl
  · rename_i tab x args
    show(match x.val e with
      | .d (.iface t y)=>(match ZlR tab t with | some f=>Zp0 Γ cf nid H f (.d y :: Zd4 e args) k | none=>none)
      | _=>none)=_
    rw[Zfx]
    cases h:x.val e<;>try rfl
    rename_i y
    cases y<;>try rfl
    rename_i t y
    dsimp only
    cases h2:ZlR tab t with
    | none=>rfl
    | some f=>exact ZoO _ _ _ _ _ _ _
  · exact ZwK _ _ _ _ _ _
  · exact Zw6 _ _ _ _ _ _
  · exact ZoO _ _ _ _ _ _ _
  · rename_i x
    show(match elems H (x.val e) with | some xs=>br (Nat.blt 0 xs.length) (k (.d (.bool false)) [] []) none | none=>none)=on3 (match elems H (x.val e) with | some xs=>(match Nat.blt 0 xs.length with | true=>Zba (.d (.bool false)) | false=>none) | none=>none) k
    cases elems H (x.val e) with
    | none=>rfl
    | some xs=>
      dsimp only
      rw[Zbp]
      cases Nat.blt 0 xs.length<;>rfl
  · rename_i id args
    show(match H,ZkE (Zd4 e args) with | [],some l=>bnd (Zm9 id l) fun r=>k (.d r) [] [] | _,_=>none)=on3 (match H,ZkE (Zd4 e args) with | [],some l=>(match Zm9 id l with | some r=>Zba (.d r) | none=>none) | _,_=>none) k
    cases H<;>cases ZkE (Zd4 e args)<;>try rfl
    rename_i l
    dsimp only
    rw[Zd1]
    cases Zm9 id l<;>rfl
  · exact Ztc _ _ _ _ _
  · exact ZzD _ _ _
  · exact Zy9 _ _ _
  · exact ZwI _ _ _ _
  · exact ZyQ _ _ _
  · rename_i sz z n c
    show(match n.val e,c.val e with
      | .d (.int _ n),.d (.int _ c)=>br (decide (0<=n)&&decide (n<=lim)&&decide (n==c)) (bnd (some (List.replicate n.toNat (match z with | [x]=>x | z=>.agg z))) fun zs=>k (.d (.list true zs)) [] []) none
      | _,_=>none)=on3 (match n.val e,c.val e with
      | .d (.int _ n),.d (.int _ c)=>bif decide (0<=n)&&decide (n<=lim)&&decide (n==c) then Zba (.d (.list true (List.replicate n.toNat (match z with | [x]=>x | z=>.agg z)))) else none
      | _,_=>none) k
    cases n.val e<;>try rfl
    rename_i x
    cases x<;>try rfl
    rename_i i n1
    cases c.val e<;>try rfl
    rename_i x
    cases x<;>try rfl
    rename_i j c1
    dsimp only
    simp only[Zbp,Zkk]
    cases h3:(decide (0<=n1)&&decide (n1<=lim)&&decide (n1==c1))<;>rfl
def ZpR (e:Env) (g:Option (Nat×Bool)) (x y:Option β):Option β:=
  match g with
  | none=>x
  | some (s,b)=>match e s with | .d (.bool t)=>brL (t==b) x y | .d (.tup [])=>y | _=>none
theorem Ztk (e:Env) (g:Option (Nat×Bool)) (x y:Option β):ZpR e g x y=(match Zb2 e g with | some true=>x | some false=>y | none=>none):=by
  unfold ZpR Zb2
  cases g with
  | none=>rfl
  | some p=>
    obtain⟨s,b⟩:=p
    dsimp only
    split<;>rename_i h
    · simp only[h,brL];rename_i t;cases h2:t==b<;>rfl
    · simp only[h]
    · split<;>simp_all
end
section
variable {β:Type}
def ZtD (e:Env) (dst:Option Nat) (H:Zi) (v:V) (up:List (Nat×Blk)) (nw:List Blk) (k:Env->Zi->Option β):Option β:=
  ZtT v fun v=>match dst with
    | some i=>(match up,nw with
      | [],[]=>k (e.set i v) H
      | up,nw=>Zlw (Zbc H up++nw) fun H=>k (e.set i v) H)
    | none=>(match up,nw with
      | [],[]=>k e H
      | up,nw=>Zlw (Zbc H up++nw) fun H=>k e H)
theorem ZuX (e:Env) (dst:Option Nat) (H:Zi) (v:V) (up:List (Nat×Blk)) (nw:List Blk) (k:Env->Zi->Option β):ZtD e dst H v up nw k=k (Zlp e dst v) (Zbc H up++nw):=by
  unfold ZtD
  rw[ZtS]
  cases dst<;>dsimp only[Zlp]
  all_goals
    split
    · simp[Zbc]
    · rw[Zj9]
def Zvc (e:Env) (dst:Option Nat) (k:Env->Option β):Option β:=match dst with | some i=>k (e.set i (.d (.tup []))) | none=>k e
theorem ZvY (e:Env) (dst:Option Nat) (k:Env->Option β):Zvc e dst k=k (Zlp e dst (.d (.tup []))):=by cases dst<;>rfl
def ZwA:O->Bool
  | .mov _=>true
  | .pick _ _ _=>true
  | .build _ _=>true
  | .bin _ _ _=>true
  | .eqv _ _ _ _=>true
  | .un _ _=>true
  | .conv _ _=>true
  | .mkfn _ _=>true
  | .index _ _ _ _ _=>true
  | .indexS _ _=>true
  | .mx _ _=>true
  | .extract _ _=>true
  | .bslice _ _ 0 _=>true
  | .alloc _=>true
  | .box _=>true
  | _=>false
theorem Zzp {Γ:Ctx}{cf:Zac}{e:Env}{nid:Nat}{H H':Zi}{op:O} (h:ZwA op=true):opE Γ cf e nid H op=opE Γ cf e nid H' op:=by
  cases op<;>first | rfl | (cases h;done) | skip
  rename_i sz z len ps
  cases len with
  | zero=>rfl
  | succ n=>cases h
noncomputable def ZyG (Γ:Ctx) (cf:Zac) (l:List Op1) (e:Env) (H:Zi) (k:Env->Zi->Option β):Option β:=
  List.rec (motive:=fun _=>Env->Zi->(Env->Zi->Option β)->Option β) (fun e H k=>k e H)
    (fun o _ ih e H k=>ZpR e o.guard (Zce H.length fun nid=>opK Γ cf e nid H o.op fun v up nw=>ZtD e o.dst H v up nw fun e H=>ih e H k) (Zvc e o.dst fun e=>ih e H k)) l e H k
theorem ZyK (Γ:Ctx) (cf:Zac) (o:Op1) (r:List Op1) (e:Env) (H:Zi) (k:Env->Zi->Option β) :
    ZyG Γ cf (o :: r) e H k=ZpR e o.guard (Zce H.length fun nid=>opK Γ cf e nid H o.op fun v up nw=>ZtD e o.dst H v up nw fun e H=>ZyG Γ cf r e H k) (Zvc e o.dst fun e=>ZyG Γ cf r e H k):=rfl
theorem Zuw (Γ:Ctx) (cf:Zac):∀(l:List Op1) (e:Env) (H:Zi) (k:Env->Zi->Option β),ZyG Γ cf l e H k=(match Zd7 Γ cf l e H with | some (e,H)=>k e H | none=>none)
  | [],e,H,k=>rfl
  | o :: l,e,H,k=>by
    rw[ZyK]
    unfold Zd7
    rw[Ztk,ZcT,Zub,ZvY]
    cases hw:Zb2 e o.guard with
    | none=>rfl
    | some b=>
      cases b with
      | false=>exact Zuw Γ cf l _ _ k
      | true=>
        dsimp only
        cases ho:opE Γ cf e H.length H o.op with
        | none=>rfl
        | some q=>obtain⟨v,up,nw⟩:=q;simp only[on3,ZuX];exact Zuw Γ cf l _ _ k
def ZnD (l:List (Nat×Nat)) (k:List (Nat×Nat)->Option β):Option β:=
  match l with
  | []=>k []
  | p :: l=>Zce p.1 fun a=>Zce p.2 fun b=>ZnD l fun l=>k ((a,b) :: l)
theorem ZpS:∀(l:List (Nat×Nat)) (k:List (Nat×Nat)->Option β),ZnD l k=k l
  | [],k=>rfl
  | p :: l,k=>by unfold ZnD;rw[ZcT,ZcT,ZpS l]
def ZDu (o:O) (mask:List Nat) (H:Zi) (pos:List (Nat×Nat)) (k:Zi->Option β):Option β:=
  match ZwA o with
  | true=>k H
  | false=>(match mask with | []=>k H | mask=>Zlw (Zga H pos mask) k)
noncomputable def Zs2 (Γ:Ctx) (cf:Zac) (pos:List (Nat×Nat)) (l:List Op1) (e:Env) (H:Zi) (k:Env->Zi->Option β):Option β:=
  List.rec (motive:=fun _=>List (Nat×Nat)->Env->Zi->(Env->Zi->Option β)->Option β) (fun _ e H k=>k e H)
    (fun o _ ih pos e H k=>ZpR e o.guard (Zce H.length fun nid=>ZDu o.op o.mask H pos fun Hm=>opK Γ cf e nid Hm o.op fun v up nw=>
      (match Zq6 e H o up nw with | true=>Zce nw.length fun m=>ZnD (pos++[(nid,m)]) fun pos=>ZtD e o.dst H v up nw fun e' H'=>ih pos e' H' k | false=>none)) (Zvc e o.dst fun e'=>Zce H.length fun nid=>ZnD (pos++[(nid,0)]) fun pos=>ih pos e' H k)) l pos e H k
theorem Zwu (Γ:Ctx) (cf:Zac) (pos:List (Nat×Nat)) (o:Op1) (r:List Op1) (e:Env) (H:Zi) (k:Env->Zi->Option β) :
    Zs2 Γ cf pos (o :: r) e H k=ZpR e o.guard (Zce H.length fun nid=>ZDu o.op o.mask H pos fun Hm=>opK Γ cf e nid Hm o.op fun v up nw=>
      (match Zq6 e H o up nw with | true=>Zce nw.length fun m=>ZnD (pos++[(nid,m)]) fun pos=>ZtD e o.dst H v up nw fun e' H'=>Zs2 Γ cf pos r e' H' k | false=>none)) (Zvc e o.dst fun e'=>Zce H.length fun nid=>ZnD (pos++[(nid,0)]) fun pos=>Zs2 Γ cf pos r e' H k):=rfl
theorem ZBI (Γ:Ctx) (cf:Zac) (e:Env) (nid:Nat) (o:O) (mask:List Nat) (H:Zi) (pos:List (Nat×Nat)) (k:K3 β):(ZDu o mask H pos fun Hm=>opK Γ cf e nid Hm o k)=opK Γ cf e nid (Zga H pos mask) o k:=by
  unfold ZDu
  cases h:ZwA o with
  | true=>dsimp only;rw[Zub,Zub,Zzp h (H:=H) (H':=Zga H pos mask)]
  | false=>
    dsimp only
    cases mask with
    | nil=>rfl
    | cons a l=>dsimp only;rw[Zj9]
theorem Zsp (Γ:Ctx) (cf:Zac):∀(l:List Op1) (pos:List (Nat×Nat)) (e:Env) (H:Zi) (k:Env->Zi->Option β),Zs2 Γ cf pos l e H k=(match ZeH Γ cf pos l e H with | some (e,H)=>k e H | none=>none)
  | [],pos,e,H,k=>rfl
  | o :: l,pos,e,H,k=>by
    rw[Zwu]
    unfold ZeH
    rw[Ztk,ZcT,ZBI,Zub,ZvY,ZcT,ZpS]
    cases hw:Zb2 e o.guard with
    | none=>rfl
    | some b=>
      cases b with
      | false=>exact Zsp Γ cf l _ _ _ k
      | true=>
        dsimp only
        cases ho:opE Γ cf e H.length (Zga H pos o.mask) o.op with
        | none=>rfl
        | some q=>
          obtain⟨v,up,nw⟩:=q
          simp only[on3]
          cases hb:(Zq6 e H o up nw)<;>simp only[cT,cF,ZuX,ZcT,ZpS]
          exact Zsp Γ cf l _ _ _ k
noncomputable def lpW (Γ:Ctx) (k:Nat) (live outs:List Nat) (a:C) (vs:List V) (H:Zi):Option (Ex×List V×Zi):=
  itW (fun vs H=>ZdE k live outs (ZG Γ (evW Γ) itW k a (ZcJ live vs) H)) vs H
noncomputable def Zhi (Γ:Ctx) (k0:Nat) (c:C) (e:Env) (H:Zi) (k:Ex->Env->Zi->Option β):Option β:=
  C.rec (motive:=fun _=>Env->Zi->(Ex->Env->Zi->Option β)->Option β)
    (fun e H k=>k .normal e H) (fun e H k=>k .ret e H) (fun id e H k=>k (.exit id) e H)
    (fun _ _ ia ib e H k=>ia e H fun x e H=>(match x with | .normal=>ib e H k | .exit i=>k (.exit i) e H | .ret=>k .ret e H))
    (fun x _ _ ia ib e H k=>(match x.val e with | .d (.bool t)=>brL t (ia e H k) (ib e H k) | _=>none))
    (fun id _ ia e H k=>ia e H fun x e H=>(match x with | .exit j=>(match Nat.beq j id with | true=>k .normal e H | false=>k (.exit j) e H) | .normal=>k .normal e H | .ret=>k .ret e H))
    (fun live outs a _ e H k=>Zp2 k0 (live.map e) H fun vs H=>bnd (lpW Γ k0 live outs a vs H) fun r=>k r.1 (ZcJ outs r.2.1) r.2.2)
    (fun l e H k=>ZyG Γ (evW Γ) l e H fun e H=>k .normal e H)
    (fun l e H k=>Zs2 Γ (evW Γ) [] l e H fun e H=>k .normal e H) c e H k
theorem Zn9 (Γ:Ctx) (k0:Nat):∀(c:C) (e:Env) (H:Zi) (k:Ex->Env->Zi->Option β),Zhi Γ k0 c e H k=(match ZG Γ (evW Γ) itW k0 c e H with | some (x,e,H)=>k x e H | none=>none):=by
  intro c
  induction c with
  | skip=>intros;rfl
  | ret=>intros;rfl
  | exit id=>intros;rfl
  | seq a b iha ihb=>
    intro e H k
    show(Zhi Γ k0 a e H fun x e H=>(match x with | .normal=>Zhi Γ k0 b e H k | .exit i=>k (.exit i) e H | .ret=>k .ret e H))=_
    unfold ZG
    rw[iha]
    cases h:ZG Γ (evW Γ) itW k0 a e H with
    | none=>rfl
    | some q=>
      obtain⟨x,e1,H1⟩:=q
      cases x with
      | normal=>exact ihb e1 H1 k
      | exit i=>rfl
      | ret=>rfl
  | cond x a b iha ihb=>
    intro e H k
    show(match x.val e with | .d (.bool t)=>brL t (Zhi Γ k0 a e H k) (Zhi Γ k0 b e H k) | _=>none)=_
    unfold ZG
    cases h:x.val e<;>try rfl
    rename_i y
    cases y<;>try rfl
    rename_i t
    cases t
    · exact ihb e H k
    · exact iha e H k
  | block id a iha=>
    intro e H k
    show(Zhi Γ k0 a e H fun x e H=>(match x with | .exit j=>(match Nat.beq j id with | true=>k .normal e H | false=>k (.exit j) e H) | .normal=>k .normal e H | .ret=>k .ret e H))=_
    unfold ZG
    rw[iha]
    cases h:ZG Γ (evW Γ) itW k0 a e H with
    | none=>rfl
    | some q=>
      obtain⟨x,e1,H1⟩:=q
      cases x with
      | normal=>rfl
      | exit j=>dsimp only;cases h2:Nat.beq j id<;>rfl
      | ret=>rfl
  | loop live outs a iha=>
    intro e H k
    show(Zp2 k0 (live.map e) H fun vs H=>bnd (lpW Γ k0 live outs a vs H) fun r=>k r.1 (ZcJ outs r.2.1) r.2.2)=_
    unfold ZG
    rw[Zvs]
    cases h:Zqs k0 (live.map e) H with
    | none=>rfl
    | some q=>
      obtain⟨vs,H1⟩:=q
      simp only[lpW,Zd1]
      cases h2:itW (fun vs H=>ZdE k0 live outs (ZG Γ (evW Γ) itW k0 a (ZcJ live vs) H)) vs H1 with
      | none=>rfl
      | some r=>obtain⟨x,vs,H⟩:=r;rfl
  | ops l=>
    intro e H k
    show(ZyG Γ (evW Γ) l e H fun e H=>k .normal e H)=_
    unfold ZG
    rw[Zuw]
    cases h:Zd7 Γ (evW Γ) l e H<;>rfl
  | draw l=>
    intro e H k
    show(Zs2 Γ (evW Γ) [] l e H fun e H=>k .normal e H)=_
    unfold ZG
    rw[Zsp]
    cases h:ZeH Γ (evW Γ) [] l e H<;>rfl
theorem ZEU (Γ:Ctx) (k:Nat) (live outs:List Nat) (a:C) (vs:List V) (H:Zi) :
    lpW Γ k live outs a vs H=Zhi Γ k a (ZcJ live vs) H fun x e H=>(match x with
      | .normal=>Zp2 k (live.map e) H fun vs H=>lpW Γ k live outs a vs H
      | x=>Zd6 k (outs.map e) H fun _ vs H=>some (x,vs,H)):=by
  unfold lpW
  rw[ZED,Zn9]
  cases h:ZG Γ (evW Γ) itW k a (ZcJ live vs) H with
  | none=>rfl
  | some q=>
    obtain⟨x,e,H1⟩:=q
    cases x with
    | normal=>
      simp only[ZdE]
      rw[Zvs]
      cases h2:Zqs k (live.map e) H1 with
      | none=>rfl
      | some r=>obtain⟨vs,H2⟩:=r;rfl
    | exit j=>
      simp only[ZdE]
      rw[Zcf]
      cases h2:extract k (outs.map e) H1 with
      | none=>rfl
      | some r=>obtain⟨L,vs,H2⟩:=r;rfl
    | ret=>
      simp only[ZdE]
      rw[Zcf]
      cases h2:extract k (outs.map e) H1 with
      | none=>rfl
      | some r=>obtain⟨L,vs,H2⟩:=r;rfl
theorem ZEk (Γ:Ctx) (f:Nat) (fn:FnI) (args:List V) (H:Zi) (hc:Γ.code f=some fn) (hn:Nat.beq args.length fn.nargs=true) :
    evW Γ f args H=Zhi Γ H.length fn.body (ZaA 0 args) H fun x e H1=>(match x with
      | .exit _=>none
      | _=>(match ZiS e H1 fn.res with
        | some l=>Zd6 H.length [Zfz l] H1 fun _ vs H2=>(match vs with | [v]=>some (v,H2) | _=>none)
        | none=>none)):=by
  rw[ZE3]
  unfold ZeX
  simp only[hc,hn,cT]
  rw[Zn9]
  cases h:ZG Γ (evW Γ) itW H.length fn.body (ZaA 0 args) H with
  | none=>rfl
  | some q=>
    obtain⟨x,e,H1⟩:=q
    cases x<;>try rfl
    all_goals
      dsimp only
      cases h2:ZiS e H1 fn.res with
      | none=>rfl
      | some l=>
        dsimp only
        rw[Zcf]
        cases h3:extract H.length [Zfz l] H1 with
        | none=>rfl
        | some q=>
          obtain⟨L,vs,H2⟩:=q
          match vs with
          | []=>rfl
          | [v]=>rfl
          | _ :: _ :: _=>rfl
end
theorem ZHs {β:Type} (x y:Option β):br true x y=x:=Zbp _ _ _
theorem ZHT {β:Type} (x y:Option β):br false x y=y:=Zbp _ _ _
theorem Zu4 {β:Type} (x:Option β):bnd x some=x:=by rw[Zd1];cases x<;>rfl
attribute [irreducible] br bnd lpW
end
structure ZHb where
 op:Int
 arg:Int
 work:Int
 deriving DecidableEq
structure Zv where
 src:Int
 dst:Int
 deriving DecidableEq
structure Zxm where
 maker:Int
 user:Int
 pos:Int
 deriving DecidableEq
structure Zvb where
 ins:List Int
 outs:List Int
 deriving DecidableEq
structure ZAh where
 period:Int
 deadline:Int
 parts:List ZHb
 edges:List Zv
 futures:List Zxm
 barriers:List Zvb
 deriving DecidableEq
abbrev Zs (n:Int):D:=.int .i64 n
abbrev ZdQ (τ:Bool) (l:List Int):D:=.list τ (l.map Zs)
abbrev Zbs (e:Zv):D:=.agg [Zs e.src,Zs e.dst]
theorem ZFq {n:Int} (h1 : -9223372036854775808<=n) (h2:n<9223372036854775808):i64.wrap n=n:=by
 show(if (true&&decide (n % 18446744073709551616 ≥ 9223372036854775808))=true then n % 18446744073709551616-18446744073709551616 else n % 18446744073709551616)=n
 by_cases h:n % 18446744073709551616 ≥ 9223372036854775808
 ·rw[dT h];simp only[Bool.and_self,if_true];omega
 ·rw[dF h];simp only[Bool.and_false,Bool.false_eq_true,if_false];omega
theorem ZA7 {α:Type} (xs:List α) (i:Nat):Zt xs (i:Int)=xs[i]?:=by
 unfold Zt
 have:decide ((0:Int)<=i)=true:=by simp
 rw[this];simp[ZI]
theorem ZGV (Γ:Ctx) (k:Nat) (live outs:List Nat) (a:C) (vs:List V) (H:Zi) :
  lpW Γ k live outs a vs H=Zhi Γ k a (ZcJ live vs) H fun x e H=>(match x with
   | .normal=>Zp2 k (live.map e) H fun vs H=>bnd (lpW Γ k live outs a vs H) some
   | x=>Zd6 k (outs.map e) H fun _ vs H=>some (x,vs,H)):=by
 refine(ZEU Γ k live outs a vs H).trans (congrArg (Zhi Γ k a (ZcJ live vs) H) ?_)
 funext x e H
 cases x
 ·exact congrArg (Zp2 k (live.map e) H) (funext fun vs=>funext fun H=>(Zu4 _).symm)
 ·rfl
 ·rfl
theorem Zaz {α:Type}{f:α->D}{sz:Nat} (hf:∀x,(f x).cells.length=sz/\(V.d (f x)).okb=true) (l:List α) (i:Nat):Zjz sz (l.map f) i=true:=by
 unfold Zjz
 rw[ZI,List.getElem?_map]
 cases l[i]? with
 | none=>rfl
 | some x=>simp[hf x]
def first {α:Type} (p:α->Bool):Nat->List α->Option Nat
 | _,[]=>none
 | i,x :: l=>bif p x then some i else first p (i+1) l
theorem ZEF {Γ:Ctx}{f:Nat}{args:List V}{H:Zi}{r:V×Zi} (n:Nat) (h:evN Γ n f args H=some r):evW Γ f args H=some r:=(Zi0 Γ f args H r).2 ⟨n,h⟩
theorem Zut {α:Type}{f:α->D}{p:α->Prop}:∀{xs:List D},(∀y∈xs,∃a,y=f a/\p a)->∃l:List α,xs=l.map f/\∀a∈l,p a
 | [],_=>⟨[],rfl,by simp⟩
 | x :: xs,h=>by
  obtain⟨a,ha,hp⟩:=h x (by simp)
  obtain⟨l,hl,hq⟩:=Zut (xs:=xs) fun y hy=>h y (by simp[hy])
  refine⟨a :: l,by rw[ha,hl];rfl,fun b hb=>?_⟩
  rcases List.mem_cons.1 hb with rfl | hb
  ·exact hp
  ·exact hq b hb
def I64 (n:Int):Prop:=-9223372036854775808<=n/\n<9223372036854775808
theorem ZuF {n:Int} (h:(Lit.int .i64 n).wf=true):I64 n:=by
 unfold Lit.wf at h
 simp only[aT,decide_eq_true_eq] at h
 have e1:i64.min = -9223372036854775808:=by decide
 have e2:i64.max=9223372036854775807:=by decide
 rw[e1,e2] at h
 unfold I64
 omega
theorem ZFy {y:D}{n:Nat} (h:y.isAgg=true):y = .agg y.cells:=by
 cases y<;>first | rfl | cases h
theorem ZDG {y:D} (h:y.isAgg=false):y.cells=[y]:=by
 cases y<;>first | rfl | cases h
theorem ZEn {n:Nat} (h:n<=maxLen):n<9223372036854775808:=by
 unfold maxLen at h;omega
def ZF8 (l:List Int):Prop:=l.length<9223372036854775808/\∀n∈l,I64 n
theorem Zxv {x:D} (h:ZDI (.sl false [.int .i64]) x):∃l,x=ZdQ true l/\ZF8 l:=by
 obtain⟨xs,rfl,h1,h2⟩:=h
 obtain⟨l,hl,hp⟩:=Zut (f:=Zs) (p:=I64) (xs:=xs) fun y hy=>by
  obtain⟨a1,a2⟩:=h2 y hy
  rw[ZDG a1] at a2
  obtain⟨d,r,e1,⟨n,e2,e3⟩,_⟩:=a2
  cases e1
  exact⟨n,e2,ZuF e3⟩
 subst hl
 exact⟨l,rfl,by simpa using ZEn h1,hp⟩
def ZE9 (e:Zv):Prop:=I64 e.src/\I64 e.dst
theorem ZDl {x:D}{els:List Lf}{α:Type}{f:α->D}{p:α->Prop} (h:ZDI (.sl true els) x) (hf:∀cs,Ze8 els cs->∃a,D.agg cs=f a/\p a):∃l:List α,x = .list true (l.map f)/\l.length<9223372036854775808/\∀a∈l,p a:=by
 obtain⟨xs,rfl,h1,h2⟩:=h
 obtain⟨l,hl,hp⟩:=Zut (f:=f) (p:=p) (xs:=xs) fun y hy=>by
  obtain⟨a1,a2⟩:=h2 y hy
  rw[ZFy (n:=0) a1]
  exact hf _ a2
 subst hl
 exact⟨l,rfl,by simpa using ZEn h1,hp⟩
theorem ZFi {xs:List D} (h:Ze8 [.int .i64] xs):∃n,ZkF false xs=Zs n/\I64 n:=by
 obtain⟨_,_,rfl,⟨n,rfl,w⟩,rfl⟩:=h
 exact⟨n,rfl,ZuF w⟩
section
def lpN {S R:Type} (step:S->Option (S⊕R)):Nat->S->Option R
 | 0,_=>none
 | n+1,s=>(match step s with | some (.inl s')=>lpN step n s' | some (.inr r)=>some r | none=>none)
theorem Zwb {S R:Type} (step:S->Option (S⊕R)):∀(n m:Nat) (s:S) (r:R),n<=m->lpN step n s=some r->lpN step m s=some r
 | 0,_,_,_,_,h=>by cases h
 | n+1,0,_,_,hm,_=>by omega
 | n+1,m+1,s,r,hm,h=>by
  unfold lpN at h ⊢
  cases hs:step s with
  | none=>rw[hs] at h;cases h
  | some t=>
   rw[hs] at h
   cases t with
   | inl s'=>exact Zwb step n m s' r (by omega) h
   | inr r'=>exact h
noncomputable def lp {S R:Type} (step:S->Option (S⊕R)) (s:S):Option R:=@dite _ (∃n,(lpN step n s).isSome=true) (Classical.propDecidable _) (fun h=>lpN step (Classical.choose h) s) fun _=>none
theorem ZAk {S R:Type}{step:S->Option (S⊕R)}{s:S}{r:R}{n:Nat} (h:lpN step n s=some r):lp step s=some r:=by
 unfold lp
 have hx:∃n,(lpN step n s).isSome=true:=⟨n,by rw[h];rfl⟩
 rw[dif_pos hx]
 have h2:=Classical.choose_spec hx
 cases h3:lpN step (Classical.choose hx) s with
 | none=>rw[h3] at h2;cases h2
 | some q=>
  have h4:=Zwb step _ (max n (Classical.choose hx)) s q (by omega) h3
  have h5:=Zwb step _ (max n (Classical.choose hx)) s r (by omega) h
  rw[h4] at h5
  exact h5
theorem Zx2 {S R:Type}{step:S->Option (S⊕R)}{s:S}{r:R} (h:lp step s=some r):∃n,lpN step n s=some r:=by
 unfold lp at h
 split at h
 ·exact⟨_,h⟩
 ·cases h
theorem Zaj {S R:Type} (step:S->Option (S⊕R)) (s:S):lp step s=(match step s with | some (.inl s')=>lp step s' | some (.inr r)=>some r | none=>none):=by
 have key:∀r,lp step s=some r↔(match step s with | some (.inl s')=>lp step s' | some (.inr r)=>some r | none=>none)=some r:=by
  intro r
  constructor
  ·intro h
   obtain⟨n,hn⟩:=Zx2 h
   cases n with
   | zero=>cases hn
   | succ n=>
    unfold lpN at hn
    cases hs:step s with
    | none=>rw[hs] at hn;cases hn
    | some t=>
     rw[hs] at hn
     cases t with
     | inl s'=>exact ZAk hn
     | inr r'=>exact hn
  ·intro h
   cases hs:step s with
   | none=>rw[hs] at h;cases h
   | some t=>
    rw[hs] at h
    cases t with
    | inl s'=>
     obtain⟨n,hn⟩:=Zx2 h
     exact ZAk (n:=n+1) (by unfold lpN;rw[hs];exact hn)
    | inr r'=>exact ZAk (n:=1) (by unfold lpN;rw[hs];exact h)
 cases h1:lp step s with
 | some r=>exact((key r).1 h1).symm
 | none=>
  cases h2:(match step s with | some (.inl s')=>lp step s' | some (.inr r)=>some r | none=>none) with
  | none=>rfl
  | some r=>rw[(key r).2 h2] at h1;cases h1
theorem ZAy {S R:Type}{step:S->Option (S⊕R)}{s s':S} (h:step s=some (.inl s')):lp step s=lp step s':=by rw[Zaj,h]
theorem ZDX {S R:Type}{step:S->Option (S⊕R)}{s:S}{r:R} (h:step s=some (.inr r)):lp step s=some r:=by rw[Zaj,h]
def Zct {α β:Type} (E:Option α) (Q:α->Option β->Prop) (rhs:Option β):Prop:=∀a,E=some a->Q a rhs
section
variable {α β:Type} {A B:Option α} {Q:α->Option β->Prop}
theorem ZP {c c':Bool}{X Y:Option β} (h:c=c') (h1:Zct A Q X) (h2:Zct B Q Y):Zct (bif c' then A else B) Q (br c X Y):=by
 subst h
 cases c with
 | true=>rw[ZHs];exact h1
 | false=>rw[ZHT];exact h2
theorem Zdy {c:Bool}{X Y:Option β} (h:c=true) (h1:Zct A Q X):Zct A Q (br c X Y):=by rw[h,ZHs];exact h1
theorem ZGU {c:Bool}{X Y:Option β} (h:c=false) (h1:Zct A Q Y):Zct A Q (br c X Y):=by rw[h,ZHT];exact h1
theorem Zd {γ:Type}{x x':γ}{K:γ->Option β} (h:x=x') (k:Zct A Q (K x')):Zct A Q (bnd (some x) K):=by rw[h,Zkk];exact k
theorem Zl {γ:Type}{X:Option γ}{x:γ}{K:γ->Option β} (h:X=some x) (k:Zct A Q (K x)):Zct A Q (bnd X K):=by rw[h,Zkk];exact k
theorem Zg {γ δ:Type}{E:Option γ}{A:γ->Option α}{X:Option δ}{K:δ->Option β} (enc:γ->δ) (h:∀r,E=some r->X=some (enc r)) (k:∀r,E=some r->Zct (A r) Q (K (enc r))):Zct (E.bind A) Q (bnd X K):=by
 intro a ha
 cases hE:E with
 | none=>rw[hE] at ha;cases ha
 | some r=>
  rw[hE] at ha
  rw[h r hE,Zkk]
  exact k r hE a ha
theorem ZvR {γ δ:Type} (f:γ->δ) (l:List γ) (i:Int):Zt (l.map f) i=(Zt l i).map f:=by
 unfold Zt
 cases decide (0<=i) with
 | false=>rfl
 | true=>simp only[cT,ZI,List.getElem?_map]
theorem ZC8 {γ:Type}{f:γ->D}{l:List γ}{xs:List D}{i i':Int}{A:γ->Option α}{K:D->Option β} (hx:xs=l.map f) (hi:i=i') (k:∀r,Zt l i'=some r->Zct (A r) Q (K (f r))):Zct ((Zt l i').bind A) Q (bnd (Zt xs i) K):=by
 subst hx hi
 exact Zg f (fun r h=>by rw[ZvR,h];rfl) k
theorem ZV {γ:Type}{f:γ->D}{l:List γ}{xs:List D}{i:Int}{r:γ} (hx:xs=l.map f) (h:Zt l i=some r):nth xs i.toNat=some (f r):=by
 subst hx
 unfold Zt at h
 cases hd:decide (0<=i) with
 | false=>rw[hd] at h;cases h
 | true=>rw[hd,cT,ZI] at h;rw[ZI,List.getElem?_map,h];rfl
theorem Zam {γ:Type}{f:γ->D}{l:List γ}{xs:List D}{i:Int}{r:γ} (hx:xs=l.map f) (h:Zt l i=some r):Zt xs i=some (f r):=by
 subst hx
 rw[ZvR,h];rfl
theorem Zr4:∀l:List Int,Zhq (List.map Zs l)=some l
 | []=>rfl
 | x :: r=>by
  show(match Zhq (List.map Zs r) with | some l=>some (x :: l) | none=>none)=_
  rw[Zr4 r]
theorem ZvW {H:Zi}{b:Nat}{m:List Int} (h:nth H b=some (.arr 1 (List.map Zs m))):Zts H (.sl b 1)=some (b,m):=by
 show(match nth H b with | some (.arr 1 xs)=>(match Zhq xs with | some zs=>some (b,zs) | none=>none) | _=>none)=_
 rw[h]
 show(match Zhq (List.map Zs m) with | some zs=>some (b,zs) | none=>none)=_
 rw[Zr4]
theorem Zf {a:α}{X:Option β} (h:Q a X):Zct (some a) Q X:=fun b hb=>by cases hb;exact h
theorem ZB {X:Option β}:Zct (none:Option α) Q X:=fun b hb=>by cases hb
theorem Zxt {γ:Type} (f:γ->D) (l:List γ):Nat.blt 0 (List.map f l).length=Nat.blt 0 (List.length l):=by rw[length_map]
noncomputable def evD (Γ:Ctx) (f:Nat) (args:List V):Option D:=bnd (evW Γ f args []) fun r=>(match fr r.2 6 r.1 with | some (x,_)=>some x | none=>none)
theorem Zzc (Γ:Ctx) (f:Nat) (args:List V) (K:V->Option β):bnd (evW Γ f args []) (ZpW K)=bnd (evD Γ f args) (fun x=>Zys x K):=by
 unfold evD ZpW
 simp only[Zd1]
 cases evW Γ f args [] with
 | none=>rfl
 | some r=>
  dsimp only
  cases fr r.2 6 r.1 with
  | none=>rfl
  | some q=>rfl
theorem ZBG {γ:Type}{Γ:Ctx}{f:Nat}{args args':List V}{E:Option γ}{A:γ->Option α}{K:V->Option β} (enc:γ->D) (w:∀r,E=some r->evD Γ f args'=some (enc r)) (ha:args=args') (k:∀r,E=some r->Zct (A r) Q (Zys (enc r) K)):Zct (E.bind A) Q (bnd (evW Γ f args []) (ZpW K)):=by
 subst ha
 rw[Zzc]
 exact Zg enc w k
end
theorem Zyw {β δ:Type} (Γ:Ctx) (k0:Nat) (c:C) (e:Env) (H:Zi) (k:Ex->Env->Zi->Option β) (p:β->Option δ):bnd (Zhi Γ k0 c e H k) p=Zhi Γ k0 c e H fun x e H=>bnd (k x e H) p:=by
 rw[Zn9,Zn9]
 cases ZG Γ (evW Γ) itW k0 c e H with
 | none=>exact Zd1 _ _
 | some q=>rfl
theorem ZGL (Γ:Ctx) (f:Nat) (fn:FnI) (args:List V) (hc:Γ.code f=some fn) (hn:Nat.beq args.length fn.nargs=true) :
  evD Γ f args=Zhi Γ 0 fn.body (ZaA 0 args) [] fun x e H1=>(match x with
   | .exit _=>none
   | _=>(match ZiS e H1 fn.res with
    | some l=>Zd6 0 [Zfz l] H1 fun _ vs H2=>(match vs with | [v]=>(match fr H2 6 v with | some (x,_)=>some x | none=>none) | _=>none)
    | none=>none)):=by
 unfold evD
 rw[ZEk Γ f fn args [] hc hn,Zyw]
 refine congrArg (Zhi Γ 0 fn.body (ZaA 0 args) []) ?_
 funext x e H1
 have none_b:∀{γ δ:Type} (p:γ->Option δ),bnd none p=none:=fun p=>Zd1 _ _
 cases x with
 | exit j=>exact none_b _
 | normal=>
  dsimp only
  cases ZiS e H1 fn.res with
  | none=>exact none_b _
  | some l=>
   dsimp only
   rw[Zcf,Zcf]
   show bnd (match extract 0 [Zfz l] H1 with | some (L,vs,H)=>_ | none=>none) _=_
   cases extract 0 [Zfz l] H1 with
   | none=>exact none_b _
   | some q=>
    obtain⟨L,vs,H2⟩:=q
    match vs with
    | []=>exact none_b _
    | [v]=>exact Zkk _ _
    | _ :: _ :: _=>exact none_b _
 | ret=>
  dsimp only
  cases ZiS e H1 fn.res with
  | none=>exact none_b _
  | some l=>
   dsimp only
   rw[Zcf,Zcf]
   show bnd (match extract 0 [Zfz l] H1 with | some (L,vs,H)=>_ | none=>none) _=_
   cases extract 0 [Zfz l] H1 with
   | none=>exact none_b _
   | some q=>
    obtain⟨L,vs,H2⟩:=q
    match vs with
    | []=>exact none_b _
    | [v]=>exact Zkk _ _
    | _ :: _ :: _=>exact none_b _
theorem ZFD {Γ:Ctx}{f:Nat}{args:List V}{x:D} (n:Nat) (h:(match evN Γ n f args [] with | some (v,H)=>(match fr H 6 v with | some (x,_)=>some x | none=>none) | none=>none)=some x):evD Γ f args=some x:=by
 cases hn:evN Γ n f args [] with
 | none=>rw[hn] at h;cases h
 | some r=>
  rw[hn] at h
  obtain⟨v,H⟩:=r
  unfold evD
  rw[ZEF n hn,Zkk]
  exact h
theorem ZGA {S R β:Type}{step:S->Option (S⊕R)}{G:S->Option β} (x:R->β)
  (h:∀(s:S) (rec:S->Option R),(∀s r,rec s=some r->G s=some (x r))->Zct (step s) (fun t rhs=>(match t with | .inl s'=>∀r,rec s'=some r->rhs=some (x r) | .inr r=>rhs=some (x r))) (G s)):∀s r,lp step s=some r->G s=some (x r):=by
 intro s r hr
 obtain⟨n,hn⟩:=Zx2 hr
 clear hr
 induction n generalizing s r with
 | zero=>cases hn
 | succ n ih=>
  unfold lpN at hn
  cases hs:step s with
  | none=>rw[hs] at hn;cases hn
  | some t=>
   rw[hs] at hn
   have:=h s (lpN step n) ih t hs
   cases t with
   | inl s'=>exact this r hn
   | inr r'=>cases hn;exact this
theorem Ze {S R β:Type}{G:Option β}{rec:S->Option R}{x:R->β}{s':S} (h:∀r,rec s'=some r->G=some (x r)):Zct (some (Sum.inl s')) (fun(t:S⊕R) (rhs:Option β)=>(match t with | .inl s'=>∀r,rec s'=some r->rhs=some (x r) | .inr r=>rhs=some (x r))) (bnd G some):=by
 intro a ha
 cases ha
 intro r hr
 rw[Zu4]
 exact h r hr
theorem ZCO {Γ:Ctx}{f:Nat}{args:List V} (h:evD Γ f args=some (.bool true)):∃H',evW Γ f args []=some (.d (.bool true),H'):=by
 unfold evD at h
 rw[Zd1] at h
 cases he:evW Γ f args [] with
 | none=>rw[he] at h;cases h
 | some r=>
  obtain⟨v,H⟩:=r
  rw[he] at h
  refine⟨H,?_⟩
  dsimp only at h
  cases hf:fr H 6 v with
  | none=>rw[hf] at h;cases h
  | some q=>
   obtain⟨x,ks⟩:=q
   rw[hf] at h
   cases h
   unfold fr at hf
   split at hf
   ·rename_i x
    split at hf
    ·rename_i ts
     cases he:Zw0 ts<;>rw[he] at hf<;>cases hf
    ·rename_i y hy
     cases he:x.esc<;>rw[he] at hf<;>cases hf
     rfl
   all_goals
    first
    | cases hf
    | (split at hf<;>first | cases hf | (rename_i sz' xs _;revert hf;cases Nat.beq _ sz'<;>intro hf<;>cases hf) | skip)
   all_goals
    rename_i l ks _
    first
    | (cases he:D.escs l<;>rw[he] at hf<;>cases hf)
    | cases hf
theorem ZzO {α β:Type}{A B:Option α}{Q:α->Option β->Prop}{X:Option β} (h:Zct A Q X):Zct (bif true then A else B) Q X:=h
theorem ZB8 {α β:Type}{A B:Option α}{Q:α->Option β->Prop}{X:Option β} (h:Zct B Q X):Zct (bif false then A else B) Q X:=h
abbrev w64 (n:Int):Int:=i64.wrap n
section
variable {γ:Type}
theorem Zk (f:γ->D) (l:List γ):(((List.map f l).length:Nat):Int)=((l.length:Nat):Int):=by rw[length_map]
theorem ZhP (f:γ->D) (z:γ) (n:Int):List.replicate n.toNat (f z)=List.map f (List.replicate n.toNat z):=by rw[List.map_replicate]
theorem ZtB {α:Type}:∀(l:List α) (i:Nat) (y:α),ZbL l i y=l.set i y
 | [],_,_=>rfl
 | _ :: _,0,_=>rfl
 | x :: l,i+1,y=>congrArg (x :: ·) (ZtB l i y)
theorem Zau (f:γ->D) (l:List γ) (i:Nat) (y:γ):ZbL (List.map f l) i (f y)=List.map f (List.set l i y):=by rw[ZtB,List.map_set]
theorem ZaK (f:γ->D) (l m:List γ):List.map f l++List.map f m=List.map f (l++m):=by rw[List.map_append]
theorem ZaM (f:γ->D) (l:List γ) (n:Nat):Nat.ble ((List.map f l).length+n) lim=Nat.ble (l.length+n) lim:=by rw[length_map]
theorem ZaF (f:γ->D) (l:List γ):Nat.ble (List.map f l).length lim=Nat.ble l.length lim:=by rw[length_map]
theorem ZCh (f:γ->D) (l:List γ) (o n:Nat):List.take n (List.drop o (List.map f l))=List.map f (List.take n (List.drop o l)):=by rw[<- List.map_drop,<- List.map_take]
theorem ZqQ (f:γ->D) (l:List γ) (hi:Nat):List.take (hi-0) (List.drop 0 (List.map f l))=List.map f (List.take hi l):=by rw[ZCh];rfl
theorem ZnM (f:γ->D) (l:List γ) (lo:Nat):List.take ((List.map f l).length-lo) (List.drop lo (List.map f l))=List.map f (List.drop lo l):=by
 rw[ZCh,length_map,List.take_of_length_le (by rw[length_drop];exact Nat.le_refl _)]
theorem Zwj (f:γ->D) {sz:Nat} (hf:∀x,(f x).cells.length=sz/\(V.d (f x)).okb=true) (l:List γ) (i:Nat):(Nat.beq i 0 || Zjz sz (List.map f l) i)=true:=by rw[Zaz hf,Bool.or_true]
theorem Zq0 (f:γ->D) (l:List γ) (lo:Nat):(Nat.ble lo (List.map f l).length&&Nat.ble (List.map f l).length (List.map f l).length)=Nat.ble lo l.length:=by rw[length_map,Nat.ble_eq_true_of_le (Nat.le_refl l.length),Bool.and_true]
theorem ZxO (f:γ->D) (l:List γ) (hi:Nat):(Nat.ble 0 hi&&Nat.ble hi (List.map f l).length)=Nat.ble hi l.length:=by rw[length_map];cases hi<;>rfl
end
end
open Int (toNat_of_nonneg)
theorem ZaU {i n:Nat} (h:i<n):decide ((i:Int)<(n:Int))=true:=dT (by omega)
theorem ZaY (n:Nat):decide ((n:Int)<(n:Int))=false:=dF (by omega)
theorem Zn {γ:Type}{l:List γ}{i:Nat}{x:γ} (h:l[i]? = some x):Zt l (i:Int)=some x:=(ZA7 l i).trans h
theorem Zxf {γ:Type}{l:List γ}{i:Int}{x:γ} (h0:0<=i) (h:l[i.toNat]? = some x):Zt l i=some x:=by
 have:=Zn h
 rwa [toNat_of_nonneg h0] at this
theorem ZkD {n:Int} (h1 : -9223372036854775808<=n) (h2:n<9223372036854775808):w64 n=n:=ZFq h1 h2
theorem Zcm {n:Int} (h : -9223372036854775808<=n/\n<9223372036854775808):w64 n=n:=ZkD h.1 h.2
theorem ZA {i n:Nat} (h:i<n) (hn:n<9223372036854775808):w64 ((i:Int)+1)=((i+1:Nat):Int):=by rw[Zcm (by omega)];omega
theorem Zar {n:Nat} (h:n<=1073741824):Nat.ble n lim=true:=Nat.ble_eq_true_of_le h
def ZsM {γ S R:Type} (f:Nat->γ->S->Option (S⊕R)) (fin:S->Option R):Nat->List γ->S->Option R
 | _,[],s=>fin s
 | i,x :: l,s=>(match f i x s with | some (.inl s')=>ZsM f fin (i+1) l s' | some (.inr r)=>some r | none=>none)
theorem Zxp {γ S St R:Type} (l:List γ) (step:St->Option (St⊕R)) (st:Nat->S->St) (f:Nat->γ->S->Option (S⊕R)) (fin:S->Option R)
  (h1:∀i x s,i<l.length->l[i]? = some x->step (st i s)=(match f i x s with | some (.inl s')=>some (.inl (st (i+1) s')) | some (.inr r)=>some (.inr r) | none=>none))
  (h2:∀s,step (st l.length s)=(fin s).map Sum.inr):∀s,lp step (st 0 s)=ZsM f fin 0 l s:=by
 have key:∀(k i:Nat) (s:S),i+k=l.length->lp step (st i s)=ZsM f fin i (l.drop i) s:=by
  intro k
  induction k with
  | zero=>
   intro i s hi
   have:i=l.length:=by omega
   subst this
   rw[List.drop_length,Zaj,h2]
   unfold ZsM
   cases fin s<;>rfl
  | succ k ih=>
   intro i s hi
   have hi':i<l.length:=by omega
   rw[List.drop_eq_getElem_cons hi',Zaj,h1 i l[i] s hi' (gE hi')]
   conv=>rhs;unfold ZsM
   cases f i l[i] s with
   | none=>rfl
   | some t=>
    cases t with
    | inl s'=>exact ih (i+1) s' (by omega)
    | inr r=>rfl
 intro s
 have:=key l.length 0 s (by omega)
 rwa [drop_zero] at this
def ZkZ {γ R:Type} (p:Nat->γ->Bool) (out:Nat->γ->R) (fin:R):Nat->List γ->R
 | _,[]=>fin
 | i,x :: l=>bif p i x then out i x else ZkZ p out fin (i+1) l
theorem Zdd {γ R:Type} (l:List γ) (step:Int->Option (Int⊕R)) (p:Nat->γ->Bool) (out:Nat->γ->R) (fin:R)
  (h1:∀i x,i<l.length->l[i]? = some x->step (i:Int)=some (bif p i x then .inr (out i x) else .inl ((i+1:Nat):Int)))
  (h2:step (l.length:Int)=some (.inr fin)):lp step 0=some (ZkZ p out fin 0 l):=by
 have key:=Zxp (S:=Unit) l step (fun i _=>(i:Int)) (fun i x _=>some (bif p i x then .inr (out i x) else .inl ())) (fun _=>some fin)
  (fun i x s hi hx=>by rw[h1 i x hi hx];cases p i x<;>rfl) (fun _=>h2) ()
 refine(key:lp step 0=_).trans ?_
 have:∀(l:List γ) (i:Nat),ZsM (S:=Unit) (fun i x _=>some (bif p i x then Sum.inr (out i x) else Sum.inl ())) (fun _=>some fin) i l ()=some (ZkZ p out fin i l):=by
  intro l
  induction l with
  | nil=>intro i;rfl
  | cons x l ih=>
   intro i
   unfold ZsM ZkZ
   cases p i x with
   | true=>rfl
   | false=>exact ih (i+1)
 exact this l 0
def ZhU {γ:Type} (p:Nat->γ->Bool):Nat->List γ->Bool
 | _,[]=>false
 | i,x :: l=>p i x || ZhU p (i+1) l
theorem Zg2 {γ:Type} (p:γ->Bool):∀(l:List γ) (i:Nat),ZhU (fun _=>p) i l=l.any p
 | [],_=>rfl
 | x :: l,i=>by rw[ZhU,List.any_cons,Zg2 p l]
theorem Zbi {γ R:Type} (p:Nat->γ->Bool) (c fin:R):∀(l:List γ) (i:Nat),ZkZ p (fun _ _=>c) fin i l=bif ZhU p i l then c else fin
 | [],_=>rfl
 | x :: l,i=>by
  unfold ZkZ ZhU
  rw[Zbi p c fin l (i+1)]
  cases p i x<;>rfl
theorem ZrK {γ R:Type} (p:γ->Bool) (fin:R):∀(l:List γ) (i:Nat),(∃j:Nat,ZkZ (fun _=>p) (fun i _=>(Sum.inl (i:Int):Int⊕R)) (.inr fin) i l = .inl (j:Int)/\l.any p=true)∨(ZkZ (fun _=>p) (fun i _=>(Sum.inl (i:Int):Int⊕R)) (.inr fin) i l = .inr fin/\l.any p=false)
 | [],_=>.inr ⟨rfl,rfl⟩
 | x :: l,i=>by
  unfold ZkZ
  rw[List.any_cons]
  cases h:p x with
  | true=>exact .inl ⟨i,rfl,rfl⟩
  | false=>simpa using ZrK p fin l (i+1)
theorem ZjX {γ:Type} (p:Nat->γ->Bool):∀(l:List γ) (i:Nat),ZhU p i l=true↔∃j x,l[j]? = some x/\p (i+j) x=true
 | [],i=>by simp[ZhU]
 | x :: l,i=>by
  rw[ZhU,Bool.or_eq_true,ZjX p l (i+1)]
  constructor
  ·rintro (h | ⟨j,y,hj,hp⟩)
   ·exact⟨0,x,rfl,h⟩
   ·exact⟨j+1,y,by simpa using hj,by rw[show i+(j+1)=i+1+j by omega];exact hp⟩
  ·rintro ⟨j,y,hj,hp⟩
   cases j with
   | zero=>left;simp at hj;subst hj;exact hp
   | succ j=>right;exact⟨j,y,by simpa using hj,by rw[show i+1+j=i+(j+1) by omega];exact hp⟩
end Go.Proofs.YtgcfmiajkbbmeaaGreatE
namespace Go.Proofs.YtgcfmiajkbbmeaaGreat
open Go Go.Proofs.YtgcfmiajkbbmeaaGreatE
open Go.IntKind (u64 i64 u32 i32 u8)
open Int (le_refl toNat_natCast)
open List (length_map getElem_mem mem_cons mem_singleton sum_cons)
def lf (left:List Int) (n:Int):Int:=match left[n.toNat]? with | some x=>x | none=>0
theorem ZjB {left:List Int}{n:Int} (h0:0<=n) (h:n.toNat<left.length):left[n.toNat]? = some (lf left n):=by
  unfold lf
  rw[gE h]
theorem Zmd {left:List Int}{i:Nat}{x:Int} (h:left[i]? = some x):lf left (i:Int)=x:=by
  unfold lf
  rw[toNat_natCast,h]
theorem ZCb {left:List Int}{n v k:Int} (hn:0<=n/\n.toNat<left.length) (hk:0<=k):lf (left.set n.toNat v) k=if k=n then v else lf left k:=by
  unfold lf
  rw[List.getElem?_set]
  by_cases h:n.toNat=k.toNat
  · rw[if_pos h,if_pos hn.2,if_pos (by omega)]
  · rw[if_neg h,if_neg (by omega)]
def isN (left:List Int) (n:Int):Prop:=0<=n/\n.toNat<left.length
def ZlB (E:List Zv) (left:List Int) (n:Int):Prop:=∀e∈E,e.dst=n->lf left e.src=0
def Rdy (E:List Zv) (left on:List Int) (n:Int):Prop:=isN left n/\0<lf left n/\n∉on/\ZlB E left n
def ZpG (row:List Int):Prop:=∀(i j:Nat) (n:Int),row[i]? = some n->row[j]? = some n->n ≠ -1->i=j
structure Zht (E:List Zv) (left on:List Int):Prop where
  rng:∀x∈left,0<=x/\x<=1000
  run:∀n∈on,n = -1∨(isN left n/\0<lf left n/\ZlB E left n)
  one:ZpG on
  over:∀n,isN left n->lf left n=0->ZlB E left n
structure Zfi (E:List Zv) (left on row:List Int):Prop where
  len:row.length=on.length
  keep:∀(c:Nat) (n:Int),on[c]? = some n->n ≠ -1->row[c]? = some n
  new:∀(c:Nat) (n:Int),on[c]? = some (-1)->row[c]? = some n->n = -1∨Rdy E left on n
  one:ZpG row
  all : -1∈row->∀n,¬Rdy E left row n
def dec (left:List Int) (n:Int):List Int:=if n = -1 then left else left.set n.toNat (lf left n-1)
def ZJ (left row:List Int):List Int:=row.foldl dec left
def ZH (left row:List Int):List Int:=row.map fun n=>if n = -1 then -1 else if lf (ZJ left row) n=0 then -1 else n
theorem ZqL (left:List Int) (n:Int):(dec left n).length=left.length:=by unfold dec;split<;>simp
theorem ZbV:∀(row left:List Int),(ZJ left row).length=left.length
  | [],_=>rfl
  | n :: row,left=>by
    show(ZJ (dec left n) row).length=_
    rw[ZbV row,ZqL]
theorem ZpG.tail {n:Int}{row:List Int} (h:ZpG (n :: row)):ZpG row/\(n ≠ -1->n∉row):=by
  refine⟨fun i j k h1 h2 h3=>?_,fun hn hm=>?_⟩
  · have:=h (i+1) (j+1) k h1 h2 h3
    omega
  · obtain⟨i,hi⟩:=List.getElem?_of_mem hm
    have:=h 0 (i+1) n rfl hi hn
    omega
theorem Zl3:∀(row left:List Int),ZpG row->(∀n∈row,n = -1∨isN left n)->∀k,0<=k->lf (ZJ left row) k=if k∈row then lf left k-1 else lf left k
  | [],left,_,_,k,_=>by simp[ZJ]
  | n :: row,left,ho,hr,k,hk=>by
    obtain⟨ho1,ho2⟩:=ho.tail
    have ih:=Zl3 row (dec left n) ho1 (fun m hm=>by
      rcases hr m (by simp[hm]) with h | h
      · exact .inl h
      · exact .inr ⟨h.1,by rw[ZqL];exact h.2⟩) k hk
    show lf (ZJ (dec left n) row) k=_
    rw[ih]
    by_cases hn:n = -1
    · have e:dec left n=left:=by unfold dec;rw[if_pos hn]
      rw[e]
      have:(k∈n :: row)=(k∈row):=by
        rw[mem_cons]
        exact propext ⟨fun h => by rcases h with h | h; · omega
                                   · exact h,.inr⟩
      simp only[this]
    · have hin:isN left n:=by
        rcases hr n (by simp) with h | h
        · exact absurd h hn
        · exact h
      have e:lf (dec left n) k=if k=n then lf left n-1 else lf left k:=by
        unfold dec
        rw[if_neg hn]
        exact ZCb hin hk
      rw[e]
      by_cases hkn:k=n
      · subst hkn
        rw[if_neg (ho2 hn),if_pos rfl,if_pos (by simp)]
      · rw[if_neg hkn]
        have:(k∈n :: row)=(k∈row):=by
          rw[mem_cons]
          exact propext ⟨fun h => by rcases h with h | h; · exact absurd h hkn
                                     · exact h,.inr⟩
        simp only[this]
def busy (row:List Int):Nat:=row.countP fun n=>n != -1
theorem ZD4 {l:List Int}{i:Nat}{x v:Int} (h:l[i]? = some x):(l.set i v).sum=l.sum-x+v:=by
  induction l generalizing i with
  | nil=>cases h
  | cons a l ih=>
    cases i with
    | zero=>
      have:a=x:=Option.some.inj h
      subst this
      simp only[List.set_cons_zero,sum_cons]
      omega
    | succ i=>
      have h:l[i]? = some x:=h
      simp only[List.set_cons_succ,sum_cons,ih h]
      omega
theorem ZpN:∀(row left:List Int),(∀n∈row,n = -1∨isN left n)->(ZJ left row).sum=left.sum-(busy row:Int)
  | [],left,_=>by simp[ZJ,busy]
  | n :: row,left,hr=>by
    have ih:=ZpN row (dec left n) (fun m hm=>by
      rcases hr m (by simp[hm]) with h | h
      · exact .inl h
      · exact .inr ⟨h.1,by rw[ZqL];exact h.2⟩)
    show(ZJ (dec left n) row).sum=_
    rw[ih]
    unfold busy
    by_cases hn:n = -1
    · rw[List.countP_cons_of_neg (by simp[hn])]
      unfold dec
      rw[if_pos hn]
    · have hin:isN left n:=by
        rcases hr n (by simp) with h | h
        · exact absurd h hn
        · exact h
      rw[List.countP_cons_of_pos (by simp[hn])]
      unfold dec
      rw[if_neg hn,ZD4 (ZjB hin.1 hin.2)]
      omega
theorem Zfi.row_in {E:List Zv}{left on row:List Int} (f:Zfi E left on row) (c:Zht E left on):∀n∈row,n = -1∨(isN left n/\0<lf left n/\ZlB E left n):=fun n hn=>by
  obtain⟨i,hi⟩:=List.getElem?_of_mem hn
  have hl:i<on.length:=by rw[<- f.len];exact(gQ hi).1
  have ho:=gE hl
  by_cases h:on[i] = -1
  · rw[h] at ho
    rcases f.new i n ho hi with h1 | ⟨h1,h2,_,h4⟩
    · exact .inl h1
    · exact .inr ⟨h1,h2,h4⟩
  · have:=f.keep i _ ho h
    rw[hi] at this
    have:=Option.some.inj this
    rw[this]
    exact c.run _ (getElem_mem hl)
theorem Zfi.nodes {E:List Zv}{left on row:List Int} (f:Zfi E left on row) (c:Zht E left on):∀n∈row,n = -1∨isN left n:=fun n hn=>by
  rcases f.row_in c n hn with h | h
  · exact .inl h
  · exact .inr h.1
theorem ZrQ {E:List Zv}{left on:List Int} (c:Zht E left on) (n:Int):0<=lf left n/\lf left n<=1000:=by
  unfold lf
  cases h:left[n.toNat]? with
  | none=>simp
  | some x=>exact c.rng x (mG h)
theorem Zfi.tick_lf {E:List Zv}{left on row:List Int} (f:Zfi E left on row) (c:Zht E left on) {k:Int} (hk:0<=k):lf (ZJ left row) k=if k∈row then lf left k-1 else lf left k:=Zl3 row left f.one (f.nodes c) k hk
theorem Zfi.tick_le {E:List Zv}{left on row:List Int} (f:Zfi E left on row) (c:Zht E left on) {k:Int} (hk:0<=k):lf (ZJ left row) k<=lf left k:=by
  rw[f.tick_lf c hk]
  split<;>omega
def ZfV (E:List Zv) (n:Nat):Prop:=∀e∈E,(0<=e.src/\e.src.toNat<n)/\(0<=e.dst/\e.dst.toNat<n)
theorem Zfi.free {E:List Zv}{left on row:List Int} (hE:ZfV E left.length) (f:Zfi E left on row) (c:Zht E left on) {n:Int} (h:ZlB E left n):ZlB E (ZJ left row) n:=fun e he hd=>by
  have h1:=h e he hd
  have h0:=(hE e he).1
  rw[f.tick_lf c h0.1]
  split
  · rename_i hm
    rcases f.row_in c _ hm with h2 | ⟨_,h2,_⟩
    · omega
    · omega
  · exact h1
theorem Zfi.next {E:List Zv}{left on row:List Int} (hE:ZfV E left.length) (f:Zfi E left on row) (c:Zht E left on):Zht E (ZJ left row) (ZH left row):=by
  have hl:=ZbV row left
  refine⟨fun x hx=>?_,fun n hn=>?_,fun i j n h1 h2 h3=>?_,fun n hn h0=>?_⟩
  · obtain⟨i,hi⟩:=List.getElem?_of_mem hx
    have e:=Zmd hi
    rw[<- e,f.tick_lf c (by omega)]
    have:=ZrQ c (i:Int)
    split
    · rename_i hm
      rcases f.row_in c _ hm with h2 | ⟨_,h2,_⟩
      · omega
      · omega
    · exact this
  · unfold ZH at hn
    obtain⟨k,hk,rfl⟩:=List.mem_map.1 hn
    by_cases h1:k = -1
    · rw[if_pos h1];exact .inl rfl
    · rw[if_neg h1]
      by_cases h2:lf (ZJ left row) k=0
      · rw[if_pos h2];exact .inl rfl
      · rw[if_neg h2]
        rcases f.row_in c k hk with h3 | ⟨h3,h4,h5⟩
        · exact absurd h3 h1
        · refine .inr ⟨⟨h3.1,by rw[hl];exact h3.2⟩,?_,f.free hE c h5⟩
          rw[f.tick_lf c h3.1,if_pos hk] at h2 ⊢
          omega
  · have back:∀i:Nat,(ZH left row)[i]? = some n->row[i]? = some n:=fun i h=>by
      unfold ZH at h
      rw[List.getElem?_map] at h
      cases hr:row[i]? with
      | none=>rw[hr] at h;cases h
      | some k=>
        rw[hr] at h
        have h:(if k = -1 then (-1:Int) else if lf (ZJ left row) k=0 then -1 else k)=n:=Option.some.inj h
        by_cases h1:k = -1
        · rw[if_pos h1] at h;exact absurd h.symm h3
        · rw[if_neg h1] at h
          by_cases h2:lf (ZJ left row) k=0
          · rw[if_pos h2] at h;exact absurd h.symm h3
          · rw[if_neg h2] at h;rw[h]
    exact f.one i j n (back i h1) (back j h2) h3
  · have hn':isN left n:=⟨hn.1,by rw[<- hl];exact hn.2⟩
    rw[f.tick_lf c hn.1] at h0
    by_cases hm:n∈row
    · rcases f.row_in c n hm with h2 | ⟨_,_,h2⟩
      · have:=hn.1;omega
      · exact f.free hE c h2
    · rw[if_neg hm] at h0
      exact f.free hE c (c.over n hn' h0)
inductive Sched (E:List Zv) (need:List Int) (m:Nat):List (List Int)->List Int->List Int->Prop
  | nil:Sched E need m [] need (List.replicate m (-1))
  | snoc {t:List (List Int)} {left on row:List Int}:Sched E need m t left on->(∃n,isN left n/\0<lf left n)->Zfi E left on row->Sched E need m (t++[row]) (ZJ left row) (ZH left row)
theorem Zrm {E:List Zv}{need:List Int} (m:Nat) (h:∀x∈need,1<=x/\x<=1000):Zht E need (List.replicate m (-1)):=by
  refine⟨fun x hx=>by have:=h x hx;omega,fun n hn=>.inl (List.mem_replicate.1 hn).2,fun i j n h1 h2 h3=>?_,fun n hn h0=>?_⟩
  · have:=mG h1
    exact absurd (List.mem_replicate.1 this).2 h3
  · have:=h _ (mG (ZjB hn.1 hn.2))
    omega
theorem Sched.len {E:List Zv}{need:List Int}{m:Nat}{t:List (List Int)}{left on:List Int} (s:Sched E need m t left on):left.length=need.length/\on.length=m/\∀row∈t,row.length=m:=by
  induction s with
  | nil=>exact⟨rfl,by simp,fun _ h=>by cases h⟩
  | snoc _ _ f ih=>
    refine⟨by rw[ZbV];exact ih.1,by unfold ZH;rw[length_map,f.len];exact ih.2.1,fun r hr=>?_⟩
    rcases List.mem_append.1 hr with h | h
    · exact ih.2.2 r h
    · rw[mem_singleton] at h
      rw[h,f.len]
      exact ih.2.1
theorem Sched.crew {E:List Zv}{need:List Int}{m:Nat} (h:∀x∈need,1<=x/\x<=1000) (hE:ZfV E need.length) {t:List (List Int)}{left on:List Int} (s:Sched E need m t left on):Zht E left on:=by
  induction s with
  | nil=>exact Zrm m h
  | snoc s _ f ih=>exact f.next (by rw[s.len.1];exact hE) ih
def Zet (t:List (List Int)):Nat:=(t.map busy).sum
theorem Sched.sum {E:List Zv}{need:List Int}{m:Nat} (h:∀x∈need,1<=x/\x<=1000) (hE:ZfV E need.length) {t:List (List Int)}{left on:List Int} (s:Sched E need m t left on):left.sum=need.sum-(Zet t:Int):=by
  induction s with
  | nil=>simp[Zet]
  | snoc s _ f ih=>
    rw[ZpN _ _ (f.nodes (s.crew h hE)),ih]
    unfold Zet
    rw[List.map_append,List.sum_append]
    simp
    omega
theorem Sched.left_le {E:List Zv}{need:List Int}{m:Nat} (h:∀x∈need,1<=x/\x<=1000) (hE:ZfV E need.length) {t:List (List Int)}{left on:List Int} (s:Sched E need m t left on) {n:Int} (hn:0<=n):lf left n<=lf need n:=by
  induction s with
  | nil=>exact le_refl _
  | snoc s _ f ih=>exact Int.le_trans (f.tick_le (s.crew h hE) hn) ih
end Go.Proofs.YtgcfmiajkbbmeaaGreat
