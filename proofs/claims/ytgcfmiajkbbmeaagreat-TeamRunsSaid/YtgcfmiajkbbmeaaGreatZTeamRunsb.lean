/- TeamRuns: part 2 of 6 of the proof. -/
import Derived.Test.YtgcfmiajkbbmeaaGreatZTeamRunsa
import Derived.ChangeKeysEq
import Derived.ArgAppend
import Derived.Great.BuildSlice
import Derived.MapKept
import Derived.LoopN
import Derived.Scope
set_option maxRecDepth 100000
set_option maxHeartbeats 40000000
set_option linter.unusedVariables false
set_option linter.unusedSimpArgs false
namespace Go.Proofs.YtgcfmiajkbbmeaaGreatE
open Go
open Go.IntKind (u64 i64 u32 i32 u8)
open Option (map_some)
open Nat (succ_mul lt_of_lt_of_le le_trans lt_or_ge add_zero zero_mul zero_add add_mul ble_eq mod_lt beq_refl)
open List (length_nil length_take length_drop length_map length_set length_cons map_cons length_replicate length_singleton getElem_mem mem_cons mem_cons_self mem_cons_of_mem drop_zero append_nil mem_singleton)
section
theorem Zb7 {α:Type}:∀(vs cs:List α) (o:Nat),(ZS cs o vs).length=cs.length
 | [],cs,o=>rfl
 | v :: vs,cs,o=>by rw[ZS,Zb7 vs,Zah,length_set]
theorem Za1 {α:Type}:∀(vs cs:List α) (o j:Nat),(ZS cs o vs)[j]? = if o<=j/\j<o+vs.length then (if j<cs.length then vs[j-o]? else none) else cs[j]?
 | [],cs,o,j=>by rw[ZS,if_neg (by simp only[length_nil];omega)]
 | v :: vs,cs,o,j=>by
  rw[ZS,Za1 vs,Zah,length_set,List.getElem?_set]
  by_cases h1:o=j
  ·subst h1
   have hR:o<=o/\o<o+(v :: vs).length:=by simp only[length_cons];omega
   have hL:¬(o+1<=o/\o<o+1+vs.length):=by omega
   rw[if_neg hL,if_pos rfl,if_pos hR]
   by_cases h2:o<cs.length
   ·rw[if_pos h2,if_pos h2,Nat.sub_self,List.getElem?_cons_zero]
   ·rw[if_neg h2,if_neg h2]
  ·rw[if_neg h1]
   by_cases h2:o+1<=j/\j<o+1+vs.length
   ·have hR:o<=j/\j<o+(v :: vs).length:=by simp only[length_cons];omega
    rw[if_pos h2,if_pos hR]
    have:j-o=(j-(o+1))+1:=by omega
    rw[this,List.getElem?_cons_succ]
   ·have hR:¬(o<=j/\j<o+(v :: vs).length):=by simp only[length_cons];omega
    rw[if_neg h2,if_neg hR]
theorem Zsv:∀(vs:List Value) (k off:Nat) (cs:Array Value),((vs.zipIdx k).foldl (fun cs (p:Value×Nat)=>cs.setIfInBounds (off+p.2) p.1) cs).toList=ZS cs.toList (off+k) vs
 | [],k,off,cs=>rfl
 | v :: vs,k,off,cs=>by
  rw[List.zipIdx_cons,List.foldl_cons,Zsv vs (k+1) off,ZS,Zah]
  simp[Nat.add_assoc]
section
variable {P:Program} {G:Z1} {R:RP} {w:World} {e:Env} {a:Act} {Hm H':Zi} {nid:Nat} {o:Oper}
theorem Zs5 {cs vs:List V}{us ws:List Value} (h:ZY R w cs us) (k:ZY R w vs ws) (off:Nat):ZY R w (ZS cs off vs) (ZS us off ws):=by
 have l1:=ZcV _ _ h
 have l2:=ZcV _ _ k
 refine Zj0 _ _ (by rw[Zb7,Zb7,l1]) fun j v u hv hu=>?_
 rw[Za1] at hv hu
 rw[l2] at hu
 by_cases hj:off<=j/\j<off+vs.length
 ·rw[if_pos hj] at hv hu
  by_cases hc:j<cs.length
  ·rw[if_pos hc] at hv
   rw[if_pos (by omega)] at hu
   obtain⟨u',e1,e2⟩:=ZeB _ _ _ _ k hv
   rw[hu] at e1;cases e1;exact e2
  ·rw[if_neg hc] at hv;cases hv
 ·rw[if_neg hj] at hv hu
  obtain⟨u',e1,e2⟩:=ZeB _ _ _ _ h hv
  rw[hu] at e1;cases e1;exact e2
def Zox (G:Z1) (place:Nat->Option (Nat×Nat)):List (Nat×Operand)->List (Nat×Nat×Opd)->Bool
 | [],[]=>true
 | (i,x) :: r,(off,size,y) :: s=>(match place i with | some (off',size')=>Nat.beq off off'&&Nat.beq size size' | none=>false)&&Zz G x y&&Zox G place r s
 | _,_=>false
theorem ZxF (pre:Pre G R w e a Hm) {place:Nat->Option (Nat×Nat)}:∀(ps:List (Nat×Operand)) (qs:List (Nat×Nat×Opd)) (z:List V) (cells:Array Value) (z':List V),Zox G place ps qs=true->ZY R w z cells.toList ->
  Zs7 z (qs.map fun(o,s,x)=>(o,s,x.val e))=some z'->∃cells',Instr.fill place cells (ps.map fun(i,x)=>(i,a.eval x))=some cells'/\ZY R w z' cells'.toList
 | [],[],z,cells,z',_,hd,h=>by
  simp only[List.map_nil,Zs7,sJ] at h
  subst h
  exact⟨cells,rfl,hd⟩
 | [],_ :: _,z,cells,z',hp,_,_=>by cases hp
 | _ :: _,[],z,cells,z',hp,_,_=>by cases hp
 | (i,x) :: ps,(off,size,y) :: qs,z,cells,z',hp,hd,h=>by
  simp only[Zox,aT] at hp
  obtain⟨⟨h1,h2⟩,h3⟩:=hp
  cases hpl:place i with
  | none=>rw[hpl] at h1;cases h1
  | some q=>
   obtain⟨off',size'⟩:=q
   rw[hpl] at h1
   simp only[aT] at h1
   obtain rfl:=nQ h1.1
   obtain rfl:=nQ h1.2
   simp only[map_cons,Zs7] at h
   cases hc:((y.val e).okb&&Nat.beq (y.val e).cells.length size&&Nat.ble (off+size) z.length) with
   | false=>rw[hc] at h;cases h
   | true=>
    rw[hc] at h
    simp only[cT] at h
    simp only[aT,ble_eq] at hc
    have hv:=pre.opd h2
    have hcs:=ZgY hv hc.1.1
    have hl:=ZcV _ _ hcs
    have hn:=nQ hc.1.2
    have hz:=ZcV _ _ hd
    simp only[Array.length_toList] at hl hz
    obtain⟨cells',e1,e2⟩:=ZxF pre ps qs (ZS z off (y.val e).cells) ((a.eval x).cells.zipIdx.foldl (fun cs (c,j)=>cs.setIfInBounds (off+j) c) cells) z' h3 (by
     have:((a.eval x).cells.zipIdx.foldl (fun cs (c,j)=>cs.setIfInBounds (off+j) c) cells).toList=ZS cells.toList off (a.eval x).cells.toList:=by
      rw[<- Array.foldl_toList,Array.toList_zipIdx]
      exact Zsv _ 0 off cells
     rw[this]
     exact Zs5 hd hcs off) h
    refine⟨cells',?_,e2⟩
    simp only[map_cons,Instr.fill,hpl]
    rw[if_neg (by simp;omega)]
    exact e1
def ZrD (P:Program) (t:TypeId):Option (Nat->Option (Nat×Nat)):=
 match P.underlying t with
 | some (.array _ e)=>(P.info? e).map fun ie=>fun i=>some (i*ie.size,ie.size)
 | some (.struct fields)=>(fields.toList.mapM (fun f=>(P.info? f.type).map fun i=>(f.offset,i.size))).map fun places=>(places.toArray[·]?)
 | _=>none
def ZkC (P:Program) (t:TypeId):Option Value:=match P.info? t with | some i=>i.zero | none=>none
theorem ZDr (pre:Pre G R w e a Hm) {t:TypeId}{parts:Array (Nat×Operand)}{z:List V}{ps:List (Nat×Nat×Opd)}{cs:List V}{place:Nat->Option (Nat×Nat)}{zv:Value} (hop:o.op = .build t parts)
  (hpl:ZrD P t=some place) (hz:ZkC P t=some zv) (hzc:cvs z zv.cells.toList=true) (hps:Zox G place parts.toList ps=true) (h:Zs7 z (ps.map fun(o,s,x)=>(o,s,x.val e))=some cs) (hp:ZK R.H [] nid [] H') :
  Zbl P o a w (Post R w nid 0 H' (Zvl cs)):=by
 obtain⟨cells',h1,h2⟩:=ZxF pre parts.toList ps z zv.cells cs hps (Zwl _ _ hzc) h
 have hb:P.built t (parts.map fun(i,x)=>(i,a.eval x)).toList=some cells':=by
  rw[Array.toList_map]
  unfold Program.built
  unfold ZkC at hz
  unfold ZrD at hpl
  cases hi:P.info? t with
  | none=>rw[hi] at hz;cases hz
  | some it=>
   rw[hi] at hz
   dsimp only at hz
   cases hu:P.underlying t with
   | none=>rw[hu] at hpl;cases hpl
   | some d=>
    rw[hu] at hpl
    cases d<;>try (cases hpl;done)
    ·rename_i n el
     dsimp only at hpl ⊢
     cases hie:P.info? el with
     | none=>rw[hie] at hpl;cases hpl
     | some ie=>
      rw[hie] at hpl
      simp only[map_some,sJ] at hpl
      subst hpl
      simp only[hz]
      exact h1
    ·rename_i fields
     dsimp only at hpl ⊢
     cases hm:fields.toList.mapM (fun f=>(P.info? f.type).map fun i=>(f.offset,i.size)) with
     | none=>rw[hm] at hpl;cases hpl
     | some places=>
      rw[hm] at hpl
      simp only[map_some,sJ] at hpl
      subst hpl
      simp only[hz,hm]
      exact h1
 refine Zaq (s:=Instr.build t (parts.map fun(i,x)=>(i,a.eval x))) (by unfold execOp;rw[hop]) (run_build w t _ cells' hb) (Post.stay pre.ok hp ?_)
 have:=Zry h2
 simpa using this
def Ze9 (P:Program) (t:TypeId):Option Bool:=match P.underlying t with | some .bool=>some true | some (.int _)=>some false | _=>none
def ZbC (P:Program):Nat->List Field->Option (List Bool)
 | _,[]=>some []
 | i, f :: fs => bif (f.name != "_") && Nat.beq f.offset i then (match Ze9 P f.type, ZbC P (i + 1) fs with | some b, some l => some (b :: l) | _, _ => none) else none
theorem Zf4:∀(fs:List Field) (i:Nat) (ks:List Bool),ZbC P i fs=some ks->ks.length=fs.length
 | [],i,ks,h=>by simp only[ZbC,sJ] at h;subst h;rfl
 | f :: fs,i,ks,h=>by
  simp only[ZbC] at h
  cases hc : ((f.name != "_") && Nat.beq f.offset i) with
  | false=>rw[hc] at h;cases h
  | true=>
   rw[hc] at h
   simp only[cT] at h
   cases hkt:Ze9 P f.type with
   | none=>rw[hkt] at h;cases h
   | some b=>
    rw[hkt] at h
    cases hff:ZbC P (i+1) fs with
    | none=>rw[hff] at h;cases h
    | some ks'=>
     rw[hff] at h
     simp only[sJ] at h
     subst h
     simp[Zf4 fs (i+1) ks' hff]
def ZnN (P:Program) (t:TypeId):Option (List Bool):=
 match P.underlying t with
 | some .bool=>some [true]
 | some (.int _)=>some [false]
 | some (.struct fs)=>bif !(Nat.beq fs.toList.length 1)&&(!(P.stoodInHeld t) && !(P.eqGuardType P.depth t)) then ZbC P 0 fs.toList else none
 | _=>none
theorem ZiE {t:TypeId}{b:Bool} (h:Ze9 P t=some b):Zhz P t=some false:=by
 unfold Ze9 at h;unfold Zhz
 split at h<;>simp_all
theorem Zuy {t:TypeId}{b:Bool} (ht:Ze9 P t=some b) {x y:D}{u1 u2:Value}{r:Bool} (hx:R.den w x u1) (hy:R.den w y u2) (h:eqD x y=some r) (hb:Zcd [b] [x]=true) (d:Nat):(Op.equalIn (d+1) t u1 u2).run P w = .ok r w:=by
 unfold Ze9 at ht
 split at ht
 ·rename_i hu
  cases ht
  cases x<;>try (cases hb;done)
  cases y<;>try (cases h;done)
  cases hx;cases hy
  simp only[eqD,sJ] at h
  subst h
  simp[Op.equalIn,run_underlying hu]
 ·rename_i k0 hu
  cases ht
  cases x<;>try (cases hb;done)
  cases y<;>try (cases h;done)
  cases hx;cases hy
  rename_i k n k' m
  simp only[eqD] at h
  cases hk:k==k' with
  | false=>rw[hk] at h;cases h
  | true=>
   rw[hk] at h
   obtain rfl:k=k':=by simpa using hk
   simp only[cT,sJ] at h
   subst h
   simp[Op.equalIn,run_underlying hu]
 ·cases ht
theorem Zlz {b:Bool}{ks:List Bool}{c:D}{cs:List D} (h:Zcd (b :: ks) (c :: cs)=true):Zcd [b] [c]=true/\Zcd ks cs=true:=by
 cases b<;>cases c<;>simp_all [Zcd]
theorem Zo8 (d:Nat) (us vs:List Value):∀(fs:List Field) (i:Nat) (ks:List Bool) (xs ys:List D) (r:Bool),ZbC P i fs=some ks->Zcd ks xs=true->Zls xs ys=some r ->
  (∀(j:Nat) x,xs[j]? = some x->∃u,us[i+j]? = some u/\R.den w x u)->(∀(j:Nat) y,ys[j]? = some y->∃u,vs[i+j]? = some u/\R.den w y u)->(Op.eqFields (d+1) us.toArray vs.toArray fs).run P w = .ok r w
 | [],i,ks,xs,ys,r,hf,hk,h,_,_=>by
  simp only[ZbC,sJ] at hf
  subst hf
  cases xs with
  | cons x xs=>simp[Zcd] at hk
  | nil=>
   cases ys with
   | cons y ys=>simp[Zls] at h
   | nil=>
    simp only[Zls,sJ] at h
    subst h
    simp[Op.eqFields]
 | f :: fs,i,ks,xs,ys,r,hf,hk,h,h1,h2=>by
  simp only[ZbC] at hf
  cases hc : ((f.name != "_") && Nat.beq f.offset i) with
  | false=>rw[hc] at hf;cases hf
  | true=>
   rw[hc] at hf
   simp only[cT] at hf
   simp only[aT] at hc
   cases hkt:Ze9 P f.type with
   | none=>rw[hkt] at hf;cases hf
   | some b=>
    rw[hkt] at hf
    cases hff:ZbC P (i+1) fs with
    | none=>rw[hff] at hf;cases hf
    | some ks'=>
     rw[hff] at hf
     simp only[sJ] at hf
     subst hf
     cases xs with
     | nil=>cases b<;>simp[Zcd] at hk
     | cons x xs=>
      cases ys with
      | nil=>simp[Zls] at h
      | cons y ys=>
       obtain⟨k1,k2⟩:=Zlz hk
       simp only[Zls] at h
       cases e1:eqD x y with
       | none=>rw[e1] at h;cases h
       | some r1=>
        cases e2:Zls xs ys with
        | none=>rw[e1,e2] at h;cases h
        | some r2=>
         rw[e1,e2] at h
         simp only[sJ] at h
         subst h
         obtain⟨u,f1,f2⟩:=h1 0 x rfl
         obtain⟨v,g1,g2⟩:=h2 0 y rfl
         have hrest:=Zo8 d us vs fs (i+1) ks' xs ys r2 hff k2 e2
          (fun j x hj=>by have:=h1 (j+1) x (by simpa using hj);rwa [show i+(j+1)=i+1+j from by omega] at this)
          (fun j x hj=>by have:=h2 (j+1) x (by simpa using hj);rwa [show i+(j+1)=i+1+j from by omega] at this)
         have hq:=Zuy (P:=P) hkt f2 g2 e1 k1 d
         have hn : f.name ≠ "_" := by simpa using hc.1
         have ho:=nQ hc.2
         simp only[add_zero] at f1 g1
         have p1:(part f.type us.toArray f.offset).run P w = .ok u w:=by simp[part,Ze0 (ZiE hkt),ho,f1]
         have p2:(part f.type vs.toArray f.offset).run P w = .ok v w:=by simp[part,Ze0 (ZiE hkt),ho,g1]
         rw[Op.eqFields,if_pos hn]
         simp only[Sem.run_bind,p1,p2,hq,Result.andThen_ok]
         cases r1
         ·simp
         ·simpa using hrest
theorem ZGY (pre:Pre G R w e a Hm) {neg:Bool}{t t':TypeId}{x y:Operand}{x' y':Opd}{ks:List Bool}{d1 d2:D}{r:Bool} (hop:o.op = .binOp (bif neg then .neq else .eql) t x y t') (hx:Zz G x x'=true) (hy:Zz G y y'=true)
  (ht:ZnN P t=some ks) (h1:x'.val e = .d d1) (h2:y'.val e = .d d2) (hk:Zbo ks d1=true) (h:eqD d1 d2=some r) (hp:ZK R.H [] nid [] H'):Zbl P o a w (Post R w nid 0 H' (.d (.bool (bif neg then !r else r)))):=by
 have hv1:=pre.opd hx
 have hv2:=pre.opd hy
 rw[h1] at hv1
 rw[h2] at hv2
 refine Zaq (s:=do eqGuard (bif neg then .neq else .eql) t x y (a.eval x) (a.eval y);binOp (bif neg then .neq else .eql) t (a.eval x) (a.eval y)) (u:=.bool (bif neg then !r else r)) (by unfold execOp;rw[hop]) ?_ (Post.stay pre.ok hp rfl)
 cases d1<;>try (cases h;done)
 ·cases d2<;>try (cases h;done)
  rename_i b1 b2
  rw[Zui hv1,Zui hv2]
  have hk':∃b,ks=[b]/\Zcd [b] [D.bool b1]=true:=by
   unfold Zbo at hk
   split at hk
   ·rename_i e1;cases e1
   ·split at hk
    ·exact⟨_,rfl,hk⟩
    ·cases hk
  obtain⟨b,rfl,hkb⟩:=hk'
  have hkt:Ze9 P t=some true:=by
   cases b with
   | false=>cases hkb
   | true=>
    unfold ZnN at ht;unfold Ze9
    split at ht
    ·rename_i hu;rw[hu]
    ·cases ht
    ·rename_i fs hu
     cases hg:(!(Nat.beq fs.toList.length 1)&&(!(P.stoodInHeld t) && !(P.eqGuardType P.depth t))) with
     | false=>rw[hg] at ht;cases ht
     | true=>
      rw[hg] at ht
      simp only[cT] at ht
      have:=Zf4 _ _ _ ht
      rw[<- this] at hg
      cases hg
    ·cases ht
  have hq:=Zuy (P:=P) (R:=R) (w:=w) hkt (x:=.bool b1) (y:=.bool b2) rfl rfl h (by rfl) 9999
  cases neg<;>simp[eqGuard,binOp,Op.equal,Op.maxDepth,hq]
 ·cases d2<;>try (cases h;done)
  rename_i k n k' m
  rw[ZjE hv1,ZjE hv2]
  simp only[eqD] at h
  cases hkk:k==k' with
  | false=>rw[hkk] at h;cases h
  | true=>
   rw[hkk] at h
   obtain rfl:k=k':=by simpa using hkk
   simp only[cT,sJ] at h
   subst h
   cases neg<;>simp[eqGuard,binOp,Op.intCmp]
   rfl
 ·cases d2<;>try (cases h;done)
  rename_i cs cs'
  obtain⟨us,e1,e2⟩:=hv1
  obtain⟨vs,e3,e4⟩:=hv2
  rw[e1,e3]
  have hk':(∀b,ks≠[b])/\Zcd ks cs=true:=by
   unfold Zbo at hk
   dsimp only at hk
   split at hk
   ·cases hk
   ·rename_i hn;exact⟨fun b hb=>hn b hb,hk⟩
  obtain⟨hn1,hk⟩:=hk'
  simp only[eqD] at h
  unfold ZnN at ht
  split at ht
  ·cases ht;exact absurd rfl (hn1 _)
  ·cases ht;exact absurd rfl (hn1 _)
  ·rename_i fs hu
   cases hg':(!(Nat.beq fs.toList.length 1)&&(!(P.stoodInHeld t) && !(P.eqGuardType P.depth t))) with
   | false=>rw[hg'] at ht;cases ht
   | true=>
    rw[hg'] at ht
    simp only[cT] at ht
    simp only[aT,Bool.not_eq_true'] at hg'
    obtain⟨_,hg⟩:=hg'
    have hfs:P.fieldsOf t=fs:=by unfold Program.fieldsOf;rw[hu]
    have hq:(Op.equalIn 10000 t (.agg us.toArray) (.agg vs.toArray)).run P w = .ok r w:=by
     rw[run_equalIn_struct w 9999 t us.toArray vs.toArray (by rw[hfs];exact hu) hg.1,hfs]
     exact Zo8 9998 us vs fs.toList 0 ks cs cs' r ht hk h (fun j x hj=>by simpa using Zfd cs us j x e2 hj) (fun j x hj=>by simpa using Zfd cs' vs j x e4 hj)
    cases neg<;>simp[eqGuard,binOp,Op.equal,Op.maxDepth,hq,hg.2]
  ·cases ht
def ZDv (P:Program) (t:TypeId):Option (List Bool):=
 match P.underlying t with
 | some (.array n el)=>(match Ze9 P el,Zfb P el with
  | some b,some m=>bif Nat.beq m 1&&(!(Nat.beq n 1) && !(P.eqGuardType P.depth t)) then some (List.replicate n b) else none
  | _,_=>none)
 | _=>none
theorem Zvj (d:Nat) (us vs:List Value) {el:TypeId}{b:Bool} (hkt:Ze9 P el=some b):∀(m i:Nat) (xs ys:List D) (r:Bool),Zcd (List.replicate m b) xs=true->Zls xs ys=some r ->
  (∀(j:Nat) x,xs[j]? = some x->∃u,us[i+j]? = some u/\R.den w x u)->(∀(j:Nat) y,ys[j]? = some y->∃u,vs[i+j]? = some u/\R.den w y u)->(Op.eqItems (d+1) el 1 us.toArray vs.toArray (List.range' i m)).run P w = .ok r w
 | 0,i,xs,ys,r,hk,h,_,_=>by
  cases xs with
  | cons x xs=>simp[Zcd] at hk
  | nil=>
   cases ys with
   | cons y ys=>simp[Zls] at h
   | nil=>
    simp only[Zls,sJ] at h
    subst h
    simp[Op.eqItems]
 | m+1,i,xs,ys,r,hk,h,h1,h2=>by
  rw[List.replicate_succ] at hk
  cases xs with
  | nil=>cases b<;>simp[Zcd] at hk
  | cons x xs=>
   cases ys with
   | nil=>simp[Zls] at h
   | cons y ys=>
    obtain⟨k1,k2⟩:=Zlz hk
    simp only[Zls] at h
    cases e1:eqD x y with
    | none=>rw[e1] at h;cases h
    | some r1=>
     cases e2:Zls xs ys with
     | none=>rw[e1,e2] at h;cases h
     | some r2=>
      rw[e1,e2] at h
      simp only[sJ] at h
      subst h
      obtain⟨u,f1,f2⟩:=h1 0 x rfl
      obtain⟨v,g1,g2⟩:=h2 0 y rfl
      have hrest:=Zvj d us vs hkt m (i+1) xs ys r2 k2 e2
       (fun j x hj=>by have:=h1 (j+1) x (by simpa using hj);rwa [show i+(j+1)=i+1+j from by omega] at this)
       (fun j x hj=>by have:=h2 (j+1) x (by simpa using hj);rwa [show i+(j+1)=i+1+j from by omega] at this)
      have hq:=Zuy (P:=P) hkt f2 g2 e1 k1 d
      simp only[add_zero] at f1 g1
      have p1:(part el us.toArray i).run P w = .ok u w:=by simp[part,Ze0 (ZiE hkt),f1]
      have p2:(part el vs.toArray i).run P w = .ok v w:=by simp[part,Ze0 (ZiE hkt),g1]
      rw[List.range'_succ]
      simp only[Op.eqItems,Nat.mul_one,Sem.run_bind,p1,p2,hq,Result.andThen_ok]
      cases r1
      ·simp
      ·simpa using hrest
theorem ZF0 (pre:Pre G R w e a Hm) {neg:Bool}{t t':TypeId}{x y:Operand}{x' y':Opd}{ks:List Bool}{d1 d2:D}{r:Bool} (hop:o.op = .binOp (bif neg then .neq else .eql) t x y t') (hx:Zz G x x'=true) (hy:Zz G y y'=true)
  (ht:ZDv P t=some ks) (h1:x'.val e = .d d1) (h2:y'.val e = .d d2) (hk:Zbo ks d1=true) (h:eqD d1 d2=some r) (hp:ZK R.H [] nid [] H'):Zbl P o a w (Post R w nid 0 H' (.d (.bool (bif neg then !r else r)))):=by
 have hv1:=pre.opd hx
 have hv2:=pre.opd hy
 rw[h1] at hv1
 rw[h2] at hv2
 refine Zaq (s:=do eqGuard (bif neg then .neq else .eql) t x y (a.eval x) (a.eval y);binOp (bif neg then .neq else .eql) t (a.eval x) (a.eval y)) (u:=.bool (bif neg then !r else r)) (by unfold execOp;rw[hop]) ?_ (Post.stay pre.ok hp rfl)
 unfold ZDv at ht
 split at ht
 ·rename_i n el hu
  split at ht
  ·rename_i b m hkt hsz
   cases hg':(Nat.beq m 1&&(!(Nat.beq n 1) && !(P.eqGuardType P.depth t))) with
   | false=>rw[hg'] at ht;cases ht
   | true=>
    rw[hg'] at ht
    simp only[cT,sJ] at ht
    simp only[aT,Bool.not_eq_true'] at hg'
    obtain⟨hm,hn,hg⟩:=hg'
    obtain rfl:=nQ hm
    have hn1:∀b',ks≠[b']:=fun b' hb=>by
     rw[hb] at ht
     have:=congrArg List.length ht
     rw[length_replicate] at this
     subst this
     cases hn
    cases d1<;>try (cases h;done)
    ·unfold Zbo at hk
     dsimp only at hk
     split at hk
     ·rename_i b';exact absurd rfl (hn1 b')
     ·cases hk
    ·unfold Zbo at hk
     dsimp only at hk
     split at hk
     ·rename_i b';exact absurd rfl (hn1 b')
     ·cases hk
    ·cases d2<;>try (cases h;done)
     rename_i cs cs'
     obtain⟨us,e1,e2⟩:=hv1
     obtain⟨vs,e3,e4⟩:=hv2
     rw[e1,e3]
     have hk':Zcd ks cs=true:=by
      unfold Zbo at hk
      dsimp only at hk
      split at hk
      ·cases hk
      ·exact hk
     simp only[eqD] at h
     subst ht
     obtain⟨info,hi,hsi⟩:∃i,P.info? el=some i/\i.size=1:=by
      unfold Zfb at hsz
      cases hi:P.info? el with
      | none=>rw[hi] at hsz;cases hsz
      | some i=>rw[hi] at hsz;exact⟨i,rfl,Option.some.inj hsz⟩
     have hc:P.cellsOf el=1:=by unfold Program.cellsOf;rw[hi];exact hsi
     have hq:(Op.equalIn 10000 t (.agg us.toArray) (.agg vs.toArray)).run P w = .ok r w:=by
      rw[run_equalIn_array w 9999 us.toArray vs.toArray hu hi,hc,List.range_eq_range']
      exact Zvj 9998 us vs hkt n 0 cs cs' r hk' h (fun j x hj=>by simpa using Zfd cs us j x e2 hj) (fun j x hj=>by simpa using Zfd cs' vs j x e4 hj)
     cases neg<;>simp[eqGuard,binOp,Op.equal,Op.maxDepth,hq,hg]
  ·cases ht
 ·cases ht
end
end
section
def Zeg (ks:List Nat):List (Nat×Blk):=ks.map (fun j=>(j,.dead))
theorem ZfP:∀(ks:List Nat) (H:Zi) (i:Nat) (blk:Blk),(Zbc H (Zeg ks))[i]? = some blk->blk ≠ .dead->H[i]? = some blk
 | [],H,i,blk,h,_=>h
 | k :: ks,H,i,blk,h,hd=>by
  have h1:=ZfP ks (ZbL H k .dead) i blk h hd
  rw[Zah,List.getElem?_set] at h1
  split at h1
  ·split at h1
   ·cases h1;exact absurd rfl hd
   ·cases h1
  ·exact h1
theorem ZjW:∀(ks:List Nat) (H:Zi) (k:Nat),k∈ks->ZN (Zbc H (Zeg ks)) k=false
 | [],H,k,h=>by cases h
 | j :: ks,H,k,h=>by
  by_cases hk:k∈ks
  ·exact ZjW ks (ZbL H j .dead) k hk
  ·have hj:k=j:=by simpa [hk] using h
   subst hj
   cases hl:ZN (Zbc H (Zeg (k :: ks))) k with
   | false=>rfl
   | true=>
    obtain⟨blk,h1,h2⟩:=Zm.1 hl
    have h3:=ZfP ks (ZbL H k .dead) k blk h1 h2
    rw[Zah,List.getElem?_set,if_pos rfl] at h3
    split at h3
    ·cases h3;exact absurd rfl h2
    ·cases h3
section
variable {P:Program} {R:RP} {w w':World} {nid n:Nat} {H':Zi} {v:V} {u:Value}
theorem Zij.kill (R:RP) (ks:List Nat):Zij R { R with H:=Zbc R.H (Zeg ks) } ks:=
 ⟨rfl,rfl,fun i hi=>by
  obtain⟨blk,h1,h2⟩:=Zm.1 hi
  exact Zm.2 ⟨blk,ZfP ks _ i blk h1 h2,h2⟩,fun k hk=>ZjW ks _ k hk⟩
theorem Post.afterKill (ok:R.OK w) {ks:List Nat} (h:Post { R with H:=Zbc R.H (Zeg ks) } w nid n H' v u w'):Post R w nid n H' v u w':=by
 obtain⟨R',h1,h2,h3,h4,h5⟩:=h
 exact⟨R',(Ext.kill (R:=R) (w:=w) (H':=Zbc R.H (Zeg ks)) (fun i blk=>ZfP ks _ i blk)).trans h1,h2,h3,h4,h5⟩
theorem Post.drew (h:Post R w.drew nid n H' v u w'):Post R w nid n H' v u w':=by
 obtain⟨R',h1,h2,h3,h4,h5⟩:=h
 exact⟨R',(Ext.draw (R:=R) (w:=w) (w':=w.drew) rfl rfl rfl rfl).trans h1,h2,h3,h4,h5⟩
theorem Ext.junk (R:RP) (w:World) (o:Obj):Ext R w R (w.alloc o) where
 m:=fun _ _ h=>h
 h:=fun i x blk _ h hd=>⟨blk,h,Blk.like_refl hd⟩
 b1:=rfl
 b0:=rfl
 same:=fun b hb' _=>Go.RowKit.Below.heap_alloc _ _ _ hb'
 row:=fun b cs el fr hb'=>by
  have hlt:b<w.heap.size:=(Array.getElem?_eq_some_iff.1 hb').1
  exact⟨cs,el,fr,by rw[Go.RowKit.Below.heap_alloc _ _ _ hlt];exact hb',rfl⟩
 grow:=by simp
 liv:=fun c hc h=>h
 os:=rfl
 tape:=rfl
 output:=rfl
theorem RP.OK.junk (h:R.OK w) (o:Obj):R.OK (w.alloc o):=
 ⟨h.b01,h.al,h.inj,fun i c hc=>by have:=h.lt i c hc;simp;omega,
  fun i m blk h1 h2=>(Ext.junk R w o).blkOK h.b01 (fun c hc=>Go.RowKit.Below.heap_alloc _ _ _ (h.lt i c (by rw[h2,hc]))) (h.blk i m blk h1 h2),
  h.nb,fun c hc=>by have:=h.bl c hc;simp;omega⟩
theorem Post.junk (o:Obj) (ok:R.OK w) (hp:ZK R.H [] nid [] H') (hv:Z5 R (w.alloc o) v u):Post R w nid 0 H' v u (w.alloc o):=
 ⟨R,Ext.junk R w o,ok.junk o,hp.same.symm,hv,fun i h _=>h⟩
theorem Post.write (ok:R.OK w) {b c:Nat}{old blk:Blk}{cs cs':Array Value}{el:TypeId}{fr:Nat×Nat}{ks:List Nat} (hb:R.H[b]? = some old) (hm:R.M b=some (some c)) (hl:old.like blk)
  (hw:w.heap[c]? = some (.cells cs el fr)) (hw':w'.heap[c]? = some (.cells cs' el fr)) (hs:cs'.size=cs.size) (ho:∀c',c'≠c->w'.heap[c']? = w.heap[c']?) (hsz:w'.heap.size=w.heap.size)
  (h1:w'.os=w.os) (h2:w'.tape=w.tape) (h3:w'.output=w.output) (hbk:b∉ks) (hp:ZK R.H ((b,blk) :: Zeg ks) nid [] H')
  (hk:∀R':RP,Ext R w R' w'->Zij R R' ks->R'.live c->R'.B0=R.B0->Zgl R' w' (some c) blk)
  (hv:∀R':RP,Ext R w R' w'->R'.M=R.M->(∀blk',R'.H[b]? = some blk'->blk' ≠ .dead->blk'=blk)->Z5 R' w' v u):Post R w nid 0 H' v u w':=by
 have hd:old ≠ .dead:=Blk.like_ne hl
 have hH:H'=Zbc (ZbL R.H b blk) (Zeg ks):=by
  apply List.ext_getElem?
  intro i
  have:=hp i
  rwa [if_neg (by simp only[length_nil];omega)] at this
 have hHb:∀i blk',H'[i]? = some blk'->blk' ≠ .dead->(i=b/\blk'=blk)∨(i≠b/\R.H[i]? = some blk'):=by
  intro i blk' hi hd'
  rw[hH] at hi
  have:=ZfP ks _ i blk' hi hd'
  rw[Zah,List.getElem?_set] at this
  split at this
  ·rename_i e
   split at this
   ·cases this;exact .inl ⟨e.symm,rfl⟩
   ·cases this
  ·exact .inr ⟨fun e=>by rename_i hne;exact hne e.symm,this⟩
 have hlive:∀i,ZN H' i=true->ZN R.H i=true:=fun i hi=>by
  obtain⟨blk',g1,g2⟩:=Zm.1 hi
  rcases hHb i blk' g1 g2 with⟨rfl,rfl⟩ | ⟨_,g3⟩
  ·exact Zm.2 ⟨old,hb,hd⟩
  ·exact Zm.2 ⟨blk',g3,g2⟩
 have lb:ZN R.H b=true:=Zm.2 ⟨old,hb,hd⟩
 have e:Ext R w { R with H:=H' } w':=by
  refine⟨fun _ _ h=>h,?_,rfl,rfl,?_,?_,by omega,?_,h1,h2,h3⟩
  ·intro i x blk' _ hi hd'
   rcases hHb i blk' hi hd' with⟨rfl,rfl⟩ | ⟨_,g3⟩
   ·exact⟨old,hb,hl⟩
   ·exact⟨blk',g3,Blk.like_refl hd'⟩
  ·intro c' _ hnl
   exact ho c' fun e=>hnl ⟨b,lb,by rw[e];exact hm⟩
  ·intro c' cs0 el0 fr0 hc'
   by_cases e:c'=c
   ·subst e
    rw[hw] at hc';cases hc'
    exact⟨cs',el,fr,hw',hs⟩
   ·exact⟨cs0,el0,fr0,by rw[ho c' e];exact hc',rfl⟩
  ·rintro c' _ ⟨i,g1,g2⟩
   exact⟨i,hlive i g1,g2⟩
 have hL:Zij R { R with H:=H' } ks:=⟨rfl,rfl,hlive,fun k hk=>by rw[hH];exact ZjW ks _ k hk⟩
 refine⟨{ R with H:=H' },e,?_,rfl,hv _ e rfl ?_,fun i h _=>h⟩
 ·refine⟨ok.b01,?_,?_,?_,?_,fun i c hl=>ok.nb i c (hlive i hl),fun c hc=>by rw[hsz];exact ok.bl c hc⟩
  ·intro i blk' hi hd'
   rcases hHb i blk' hi hd' with⟨rfl,rfl⟩ | ⟨_,g3⟩
   ·exact⟨_,hm⟩
   ·exact ok.al i blk' g3 hd'
  ·intro i j c' hi hj
   exact ok.inj i j c' (hlive i hi) (hlive j hj)
  ·intro i c' hc
   rw[hsz];exact ok.lt i c' hc
  ·intro i m blk' hi hmi
   by_cases hd':blk' = .dead
   ·subst hd';trivial
   ·rcases hHb i blk' hi hd' with⟨rfl,rfl⟩ | ⟨hne,g3⟩
    ·have hmi':R.M i=some m:=hmi
     rw[hm] at hmi';cases hmi'
     refine hk _ e hL ⟨i,Zm.2 ⟨blk',?_,hd'⟩,hmi⟩ rfl
     show H'[i]? = some blk'
     exact hi
    ·refine e.blkOK ok.b01 (fun c' hc'=>ho c' fun e'=>hne ?_) (ok.blk i m blk' g3 hmi)
     exact ok.inj i b c (Zm.2 ⟨blk',g3,hd'⟩) lb (by rw[<- e',<- hc'];exact hmi) hm
 ·intro blk' hi hd'
  rcases hHb b blk' hi hd' with⟨_,h⟩ | ⟨h,_⟩
  ·exact h
  ·exact absurd rfl h
theorem Post.writeM (ok:R.OK w) {b c:Nat}{old blk:Blk}{mes:Array MapEntry}{clock:Nat}{ks:List Nat} (hb:R.H[b]? = some old) (hm:R.M b=some (some c)) (hl:old.like blk)
  (hw:w.heap[c]? = some (.map mes clock)) (ho:∀c',c'≠c->w'.heap[c']? = w.heap[c']?) (hsz:w'.heap.size=w.heap.size)
  (h1:w'.os=w.os) (h2:w'.tape=w.tape) (h3:w'.output=w.output) (hbk:b∉ks) (hp:ZK R.H ((b,blk) :: Zeg ks) nid [] H')
  (hk:∀R':RP,Ext R w R' w'->Zij R R' ks->R'.live c->R'.B0=R.B0->Zgl R' w' (some c) blk)
  (hv:∀R':RP,Ext R w R' w'->R'.M=R.M->(∀blk',R'.H[b]? = some blk'->blk' ≠ .dead->blk'=blk)->Z5 R' w' v u):Post R w nid 0 H' v u w':=by
 have hd:old ≠ .dead:=Blk.like_ne hl
 have hH:H'=Zbc (ZbL R.H b blk) (Zeg ks):=by
  apply List.ext_getElem?
  intro i
  have:=hp i
  rwa [if_neg (by simp only[length_nil];omega)] at this
 have hHb:∀i blk',H'[i]? = some blk'->blk' ≠ .dead->(i=b/\blk'=blk)∨(i≠b/\R.H[i]? = some blk'):=by
  intro i blk' hi hd'
  rw[hH] at hi
  have:=ZfP ks _ i blk' hi hd'
  rw[Zah,List.getElem?_set] at this
  split at this
  ·rename_i e
   split at this
   ·cases this;exact .inl ⟨e.symm,rfl⟩
   ·cases this
  ·exact .inr ⟨fun e=>by rename_i hne;exact hne e.symm,this⟩
 have hlive:∀i,ZN H' i=true->ZN R.H i=true:=fun i hi=>by
  obtain⟨blk',g1,g2⟩:=Zm.1 hi
  rcases hHb i blk' g1 g2 with⟨rfl,rfl⟩ | ⟨_,g3⟩
  ·exact Zm.2 ⟨old,hb,hd⟩
  ·exact Zm.2 ⟨blk',g3,g2⟩
 have lb:ZN R.H b=true:=Zm.2 ⟨old,hb,hd⟩
 have e:Ext R w { R with H:=H' } w':=by
  refine⟨fun _ _ h=>h,?_,rfl,rfl,?_,?_,by omega,?_,h1,h2,h3⟩
  ·intro i x blk' _ hi hd'
   rcases hHb i blk' hi hd' with⟨rfl,rfl⟩ | ⟨_,g3⟩
   ·exact⟨old,hb,hl⟩
   ·exact⟨blk',g3,Blk.like_refl hd'⟩
  ·intro c' _ hnl
   exact ho c' fun e=>hnl ⟨b,lb,by rw[e];exact hm⟩
  ·intro c' cs0 el0 fr0 hc'
   by_cases e:c'=c
   ·subst e
    rw[hw] at hc';cases hc'
   ·exact⟨cs0,el0,fr0,by rw[ho c' e];exact hc',rfl⟩
  ·rintro c' _ ⟨i,g1,g2⟩
   exact⟨i,hlive i g1,g2⟩
 have hL:Zij R { R with H:=H' } ks:=⟨rfl,rfl,hlive,fun k hk=>by rw[hH];exact ZjW ks _ k hk⟩
 refine⟨{ R with H:=H' },e,?_,rfl,hv _ e rfl ?_,fun i h _=>h⟩
 ·refine⟨ok.b01,?_,?_,?_,?_,fun i c hl=>ok.nb i c (hlive i hl),fun c hc=>by rw[hsz];exact ok.bl c hc⟩
  ·intro i blk' hi hd'
   rcases hHb i blk' hi hd' with⟨rfl,rfl⟩ | ⟨_,g3⟩
   ·exact⟨_,hm⟩
   ·exact ok.al i blk' g3 hd'
  ·intro i j c' hi hj
   exact ok.inj i j c' (hlive i hi) (hlive j hj)
  ·intro i c' hc
   rw[hsz];exact ok.lt i c' hc
  ·intro i m blk' hi hmi
   by_cases hd':blk' = .dead
   ·subst hd';trivial
   ·rcases hHb i blk' hi hd' with⟨rfl,rfl⟩ | ⟨hne,g3⟩
    ·have hmi':R.M i=some m:=hmi
     rw[hm] at hmi';cases hmi'
     refine hk _ e hL ⟨i,Zm.2 ⟨blk',?_,hd'⟩,hmi⟩ rfl
     show H'[i]? = some blk'
     exact hi
    ·refine e.blkOK ok.b01 (fun c' hc'=>ho c' fun e'=>hne ?_) (ok.blk i m blk' g3 hmi)
     exact ok.inj i b c (Zm.2 ⟨blk',g3,hd'⟩) lb (by rw[<- e',<- hc'];exact hmi) hm
 ·intro blk' hi hd'
  rcases hHb b blk' hi hd' with⟨_,h⟩ | ⟨h,_⟩
  ·exact h
  ·exact absurd rfl h
theorem Post.writeO (ok:R.OK w) {b c:Nat}{old blk:Blk}{ks:List Nat} (hb:R.H[b]? = some old) (hm:R.M b=some (some c)) (hl:old.like blk)
  (hw:∀cs el fr,w.heap[c]? ≠ some (.cells cs el fr)) (ho:∀c',c'≠c->w'.heap[c']? = w.heap[c']?) (hsz:w'.heap.size=w.heap.size)
  (h1:w'.os=w.os) (h2:w'.tape=w.tape) (h3:w'.output=w.output) (hbk:b∉ks) (hp:ZK R.H ((b,blk) :: Zeg ks) nid [] H')
  (hk:∀R':RP,Ext R w R' w'->Zij R R' ks->R'.live c->R'.B0=R.B0->Zgl R' w' (some c) blk)
  (hv:∀R':RP,Ext R w R' w'->R'.M=R.M->(∀blk',R'.H[b]? = some blk'->blk' ≠ .dead->blk'=blk)->Z5 R' w' v u):Post R w nid 0 H' v u w':=by
 have hd:old ≠ .dead:=Blk.like_ne hl
 have hH:H'=Zbc (ZbL R.H b blk) (Zeg ks):=by
  apply List.ext_getElem?
  intro i
  have:=hp i
  rwa [if_neg (by simp only[length_nil];omega)] at this
 have hHb:∀i blk',H'[i]? = some blk'->blk' ≠ .dead->(i=b/\blk'=blk)∨(i≠b/\R.H[i]? = some blk'):=by
  intro i blk' hi hd'
  rw[hH] at hi
  have:=ZfP ks _ i blk' hi hd'
  rw[Zah,List.getElem?_set] at this
  split at this
  ·rename_i e
   split at this
   ·cases this;exact .inl ⟨e.symm,rfl⟩
   ·cases this
  ·exact .inr ⟨fun e=>by rename_i hne;exact hne e.symm,this⟩
 have hlive:∀i,ZN H' i=true->ZN R.H i=true:=fun i hi=>by
  obtain⟨blk',g1,g2⟩:=Zm.1 hi
  rcases hHb i blk' g1 g2 with⟨rfl,rfl⟩ | ⟨_,g3⟩
  ·exact Zm.2 ⟨old,hb,hd⟩
  ·exact Zm.2 ⟨blk',g3,g2⟩
 have lb:ZN R.H b=true:=Zm.2 ⟨old,hb,hd⟩
 have e:Ext R w { R with H:=H' } w':=by
  refine⟨fun _ _ h=>h,?_,rfl,rfl,?_,?_,by omega,?_,h1,h2,h3⟩
  ·intro i x blk' _ hi hd'
   rcases hHb i blk' hi hd' with⟨rfl,rfl⟩ | ⟨_,g3⟩
   ·exact⟨old,hb,hl⟩
   ·exact⟨blk',g3,Blk.like_refl hd'⟩
  ·intro c' _ hnl
   exact ho c' fun e=>hnl ⟨b,lb,by rw[e];exact hm⟩
  ·intro c' cs0 el0 fr0 hc'
   by_cases e:c'=c
   ·subst e
    exact absurd hc' (hw _ _ _)
   ·exact⟨cs0,el0,fr0,by rw[ho c' e];exact hc',rfl⟩
  ·rintro c' _ ⟨i,g1,g2⟩
   exact⟨i,hlive i g1,g2⟩
 have hL:Zij R { R with H:=H' } ks:=⟨rfl,rfl,hlive,fun k hk=>by rw[hH];exact ZjW ks _ k hk⟩
 refine⟨{ R with H:=H' },e,?_,rfl,hv _ e rfl ?_,fun i h _=>h⟩
 ·refine⟨ok.b01,?_,?_,?_,?_,fun i c hl=>ok.nb i c (hlive i hl),fun c hc=>by rw[hsz];exact ok.bl c hc⟩
  ·intro i blk' hi hd'
   rcases hHb i blk' hi hd' with⟨rfl,rfl⟩ | ⟨_,g3⟩
   ·exact⟨_,hm⟩
   ·exact ok.al i blk' g3 hd'
  ·intro i j c' hi hj
   exact ok.inj i j c' (hlive i hi) (hlive j hj)
  ·intro i c' hc
   rw[hsz];exact ok.lt i c' hc
  ·intro i m blk' hi hmi
   by_cases hd':blk' = .dead
   ·subst hd';trivial
   ·rcases hHb i blk' hi hd' with⟨rfl,rfl⟩ | ⟨hne,g3⟩
    ·have hmi':R.M i=some m:=hmi
     rw[hm] at hmi';cases hmi'
     refine hk _ e hL ⟨i,Zm.2 ⟨blk',?_,hd'⟩,hmi⟩ rfl
     show H'[i]? = some blk'
     exact hi
    ·refine e.blkOK ok.b01 (fun c' hc'=>ho c' fun e'=>hne ?_) (ok.blk i m blk' g3 hmi)
     exact ok.inj i b c (Zm.2 ⟨blk',g3,hd'⟩) lb (by rw[<- e',<- hc'];exact hmi) hm
 ·intro blk' hi hd'
  rcases hHb b blk' hi hd' with⟨_,h⟩ | ⟨h,_⟩
  ·exact h
  ·exact absurd rfl h
theorem Post.reuse (ok:R.OK w) {b c:Nat}{old blk:Blk}{cs cs':Array Value}{el:TypeId}{fr:Nat×Nat} (hb:R.H[b]? = some old) (hd:old ≠ .dead) (hm:R.M b=some (some c)) (hn:R.M nid=none)
  (hw:w.heap[c]? = some (.cells cs el fr)) (hw':w'.heap[c]? = some (.cells cs' el fr)) (hs:cs'.size=cs.size) (ho:∀c',c'≠c->w'.heap[c']? = w.heap[c']?) (hsz:w'.heap.size=w.heap.size)
  (h1:w'.os=w.os) (h2:w'.tape=w.tape) (h3:w'.output=w.output) (hp:ZK R.H [(b,.dead)] nid [blk] H')
  (hk:∀R':RP,Ext R w R' w'->R'.M nid=some (some c)->R'.H[nid]? = some blk->Zgl R' w' (some c) blk/\Z5 R' w' v u):Post R w nid 1 H' v u w':=by
 have hbn:b≠nid:=fun e=>by rw[e,hn] at hm;cases hm
 have hHn:H'[nid]? = some blk:=by
  have:=hp nid
  rw[this,if_pos (by simp)];simp
 have hHb:∀i blk',H'[i]? = some blk'->blk' ≠ .dead->(i=nid/\blk'=blk)∨(i≠nid/\i≠b/\R.H[i]? = some blk'):=by
  intro i blk' hi hd'
  by_cases hin:i=nid
  ·subst hin
   rw[hHn] at hi;cases hi
   exact .inl ⟨rfl,rfl⟩
  ·have:=hp i
   rw[if_neg (by simp only[length_singleton];omega),hi] at this
   simp only[Zbc,Zah,List.getElem?_set] at this
   split at this
   ·split at this
    ·cases this;exact absurd rfl hd'
    ·cases this
   ·rename_i hne
    exact .inr ⟨hin,fun e=>hne e.symm,this.symm⟩
 have lb:ZN R.H b=true:=Zm.2 ⟨old,hb,hd⟩
 have e:Ext R w { R with M:=fun i=>if i=nid then some (some c) else R.M i,H:=H' } w':=by
  refine⟨?_,?_,rfl,rfl,?_,?_,by omega,?_,h1,h2,h3⟩
  ·intro i x hx
   have:i≠nid:=fun e=>by rw[e,hn] at hx;cases hx
   simp[this,hx]
  ·intro i x blk' hx hi hd'
   have:i≠nid:=fun e=>by rw[e,hn] at hx;cases hx
   rcases hHb i blk' hi hd' with⟨h,_⟩ | ⟨_,_,g3⟩
   ·exact absurd h this
   ·exact⟨blk',g3,Blk.like_refl hd'⟩
  ·intro c' _ hnl
   exact ho c' fun e=>hnl ⟨b,lb,by rw[e];exact hm⟩
  ·intro c' cs0 el0 fr0 hc'
   by_cases e:c'=c
   ·subst e
    rw[hw] at hc';cases hc'
    exact⟨cs',el,fr,hw',hs⟩
   ·exact⟨cs0,el0,fr0,by rw[ho c' e];exact hc',rfl⟩
  ·rintro c' _ ⟨i,g1,g2⟩
   simp only at g1 g2
   by_cases hin:i=nid
   ·rw[if_pos hin] at g2
    cases g2
    exact⟨b,lb,hm⟩
   ·rw[if_neg hin] at g2
    obtain⟨blk',q1,q2⟩:=Zm.1 g1
    rcases hHb i blk' q1 q2 with⟨h,_⟩ | ⟨_,_,g3⟩
    ·exact absurd h hin
    ·exact⟨i,Zm.2 ⟨blk',g3,q2⟩,g2⟩
 obtain⟨k1,k2⟩:=hk _ e (by simp) hHn
 refine⟨_,e,?_,rfl,k2,fun i h hni=>by
  have:i≠nid:=fun h=>hni (by subst h;simp)
  simp[this,h]⟩
 refine⟨ok.b01,?_,?_,?_,?_,?_,fun c hc=>by rw[hsz];exact ok.bl c hc⟩
 ·intro i blk' hi hd'
  by_cases hin:i=nid
  ·exact⟨some c,by simp[hin]⟩
  ·rcases hHb i blk' hi hd' with⟨h,_⟩ | ⟨_,_,g3⟩
   ·exact absurd h hin
   ·obtain⟨x,hx⟩:=ok.al i blk' g3 hd'
    exact⟨x,by simp[hin,hx]⟩
 ·intro i j c' hi hj g1 g2
  simp only at g1 g2
  have aux:∀j,ZN H' j=true->j≠nid->R.M j=some (some c)->False:=by
   intro j hj hjn hmj
   obtain⟨blk',q1,q2⟩:=Zm.1 hj
   rcases hHb j blk' q1 q2 with⟨h,_⟩ | ⟨_,hjb,g3⟩
   ·exact hjn h
   ·exact hjb (ok.inj j b c (Zm.2 ⟨blk',g3,q2⟩) lb hmj hm)
  by_cases hin:i=nid<;>by_cases hjn:j=nid
  ·rw[hin,hjn]
  ·rw[if_pos hin] at g1;rw[if_neg hjn] at g2;cases g1
   exact(aux j hj hjn g2).elim
  ·rw[if_neg hin] at g1;rw[if_pos hjn] at g2;cases g2
   exact(aux i hi hin g1).elim
  ·rw[if_neg hin] at g1;rw[if_neg hjn] at g2
   have lv:∀i,ZN H' i=true->i≠nid->ZN R.H i=true:=fun i hi hin=>by
    obtain⟨blk',q1,q2⟩:=Zm.1 hi
    rcases hHb i blk' q1 q2 with⟨h,_⟩ | ⟨_,_,g3⟩
    ·exact absurd h hin
    ·exact Zm.2 ⟨blk',g3,q2⟩
   exact ok.inj i j c' (lv i hi hin) (lv j hj hjn) g1 g2
 ·intro i c' hc
  simp only at hc
  rw[hsz]
  by_cases hin:i=nid
  ·rw[if_pos hin] at hc;cases hc;exact ok.lt b c hm
  ·rw[if_neg hin] at hc;exact ok.lt i c' hc
 ·intro i m blk' hi hmi
  simp only at hi hmi
  by_cases hd':blk' = .dead
  ·subst hd';trivial
  ·rcases hHb i blk' hi hd' with⟨rfl,rfl⟩ | ⟨hin,hne,g3⟩
   ·rw[if_pos rfl] at hmi;cases hmi
    exact k1
   ·rw[if_neg hin] at hmi
    refine e.blkOK ok.b01 (fun c' hc'=>ho c' fun e'=>hne ?_) (ok.blk i m blk' g3 hmi)
    exact ok.inj i b c (Zm.2 ⟨blk',g3,hd'⟩) lb (by rw[<- e',<- hc'];exact hmi) hm
 ·intro i c' hl hc
  simp only at hc
  by_cases hin:i=nid
  ·rw[if_pos hin] at hc;cases hc;exact ok.nb b c lb hm
  ·rw[if_neg hin] at hc
   obtain⟨blk',q1,q2⟩:=Zm.1 hl
   rcases hHb i blk' q1 q2 with⟨h,_⟩ | ⟨_,_,g3⟩
   ·exact absurd h hin
   ·exact ok.nb i c' (Zm.2 ⟨blk',g3,q2⟩) hc
end
theorem Zei (b:Nat):∀(vs:List Value) (o:Nat) (w:World) (cs:Array Value) (el:TypeId) (fr:Nat×Nat),w.heap[b]? = some (.cells cs el fr) ->
  (∃cs':Array Value,cs'.toList=ZS cs.toList o vs/\(w.setCells b o vs).heap[b]? = some (.cells cs' el fr))/\(∀c,c≠b->(w.setCells b o vs).heap[c]? = w.heap[c]?)/\(w.setCells b o vs).heap.size=w.heap.size /\
   (w.setCells b o vs).os=w.os/\(w.setCells b o vs).tape=w.tape/\(w.setCells b o vs).output=w.output
 | [],o,w,cs,el,fr,h=>⟨⟨cs,rfl,h⟩,fun _ _=>rfl,rfl,rfl,rfl,rfl⟩
 | v :: vs,o,w,cs,el,fr,h=>by
  have hlt:b<w.heap.size:=(Array.getElem?_eq_some_iff.1 h).1
  have hv:w.heap[b] = .cells cs el fr:=(Array.getElem?_eq_some_iff.1 h).2
  have h1:(w.setCell ⟨b,o,none⟩ v).heap[b]? = some (.cells (cs.setIfInBounds o v) el fr):=by
   unfold World.setCell
   rw[Array.getElem?_eq_getElem (by simpa using hlt),Array.getElem_modify]
   simp[hv]
  obtain⟨⟨cs',e1,e2⟩,e3,e4,e5,e6,e7⟩:=Zei b vs (o+1) (w.setCell ⟨b,o,none⟩ v) _ el fr h1
  refine⟨⟨cs',?_,e2⟩,fun c hc=>?_,by rw[World.setCells,e4];simp,e5,e6,e7⟩
  ·rw[e1,ZS,Zah];simp
  ·rw[World.setCells,e3 c hc]
   exact heap_setCell_other w _ c v hc
def cellsOf (us:List Value):List Value:=us.flatMap fun u=>u.cells.toList
theorem ZhK (u:Value) (us:List Value):cellsOf (u :: us)=u.cells.toList++cellsOf us:=by simp[cellsOf]
theorem ZrJ (us vs:List Value):cellsOf (us++vs)=cellsOf us++cellsOf vs:=by simp[cellsOf]
theorem Zdj {sz:Nat}:∀(us:List Value),(∀u∈us,u.cells.size=sz)->(cellsOf us).length=us.length*sz
 | [],_=>by simp[cellsOf]
 | u :: us,h=>by
  rw[ZhK,lA,Zdj us (fun v hv=>h v (by simp[hv])),Array.length_toList,h u (by simp),length_cons,succ_mul];omega
theorem Zef {sz:Nat}:∀(us:List Value),(∀u∈us,u.cells.size=sz)->∀(i k:Nat) (u:Value) (v:Value),us[i]? = some u->u.cells[k]? = some v->(cellsOf us)[i*sz+k]? = some v
 | [],_,i,k,u,v,h,_=>by simp at h
 | u0 :: us,h,0,k,u,v,h1,h2=>by
  simp at h1;subst h1
  have hk:k<u0.cells.size:=(Array.getElem?_eq_some_iff.1 h2).1
  rw[ZhK,zero_mul,zero_add,List.getElem?_append_left (by simpa using hk)]
  simpa using h2
 | u0 :: us,h,i+1,k,u,v,h1,h2=>by
  have h0:=h u0 (by simp)
  rw[ZhK,List.getElem?_append_right (by rw[Array.length_toList,h0,succ_mul];omega),Array.length_toList,h0]
  have:(i+1)*sz+k-sz=i*sz+k:=by rw[succ_mul];omega
  rw[this]
  exact Zef us (fun v hv=>h v (by simp[hv])) i k u v (by simpa using h1) h2
theorem ZoY {sz:Nat}:∀(us:List Value),(∀u∈us,u.cells.size=sz)->∀(j:Nat) (v:Value),(cellsOf us)[j]? = some v->∃i k u,us[i]? = some u/\u.cells[k]? = some v/\j=i*sz+k
 | [],_,j,v,h=>by simp[cellsOf] at h
 | u0 :: us,h,j,v,hj=>by
  have h0:=h u0 (by simp)
  rw[ZhK] at hj
  by_cases hlt:j<sz
  ·rw[List.getElem?_append_left (by rw[Array.length_toList,h0];exact hlt)] at hj
   exact⟨0,j,u0,rfl,by simpa using hj,by omega⟩
  ·rw[List.getElem?_append_right (by rw[Array.length_toList,h0];omega),Array.length_toList,h0] at hj
   obtain⟨i,k,u,e1,e2,e3⟩:=ZoY us (fun v hv=>h v (by simp[hv])) (j-sz) v hj
   exact⟨i+1,k,u,by simpa using e1,e2,by rw[succ_mul];omega⟩
theorem Zg8 {α β:Type}:∀(ys:List α) (Q:Nat->α->β->Prop),(∀(j:Nat) x,ys[j]? = some x->∃u,Q j x u)->∃us:List β,us.length=ys.length/\∀(j:Nat) x u,ys[j]? = some x->us[j]? = some u->Q j x u
 | [],Q,_=>⟨[],rfl,by simp⟩
 | y :: ys,Q,h=>by
  obtain⟨u,hu⟩:=h 0 y rfl
  obtain⟨us,h1,h2⟩:=Zg8 ys (fun j=>Q (j+1)) (fun j x hj=>h (j+1) x (by simpa using hj))
  refine⟨u :: us,by simp[h1],fun j x v hx hv=>?_⟩
  cases j with
  | zero=>simp at hx hv;subst hx;subst hv;exact hu
  | succ j=>exact h2 j x v (by simpa using hx) (by simpa using hv)
end
section
section
variable {A1 A0 AL:Nat->Prop} {w:World}
theorem Zx7 {y:D}{v:Value} (he:y.esc=true) (ha:y.isAgg=false) (h:Zaf A1 A0 AL w y v):v.oneCell'=true:=by
 cases y with
 | agg cs=>cases ha
 | tup cs=>cases he
 | rptr cs=>cases he
 | bool b=>cases h;rfl
 | int k n=>cases h;rfl
 | str s=>cases h;rfl
 | nilfn=>cases h;rfl
 | nilp=>cases h;rfl
 | nilI=>cases h;rfl
 | list own xs=>obtain⟨ad,len,cap,rfl,_⟩:=h;rfl
 | fn f caps=>obtain⟨us,rfl,_⟩:=h;unfold Zjy;cases isU f<;>cases Nat.beq f 2000000<;>rfl
 | iface t v=>obtain⟨u',rfl,_⟩:=h;rfl
theorem Zvm:∀(cs:List D) (us:List Value),D.escs cs=true->Z6 A1 A0 AL w cs us->∀v∈us,v.oneCell'=true
 | [],us,_,h,v,hv=>by simp only[Z6] at h;subst h;cases hv
 | c :: cs,us,he,h,v,hv=>by
  obtain⟨u,us',rfl,h1,h2⟩:=h
  simp only[D.escs,aT,Bool.not_eq_true'] at he
  rcases List.mem_cons.1 hv with rfl | hv
  ·exact Zx7 he.1 he.2.1 h1
  ·exact Zvm cs us' he.2.2 h2 v hv
theorem Zs3 {y:D}{v:Value} (he:y.esc=true) (h:Zaf A1 A0 AL w y v):∀c∈v.cells.toList,c.oneCell'=true:=by
 cases ha:y.isAgg with
 | true=>
  cases y<;>try (cases ha;done)
  obtain⟨us,rfl,h1⟩:=h
  simpa [Value.cells] using Zvm _ us he h1
 | false=>
  have h1:=Zx7 he ha h
  intro c hc
  cases v<;>first
   | (cases h1;done)
   | (simp only[Value.cells] at hc;simp at hc;rw[hc];exact h1)
theorem ZoZ {R:RP}{y:D}{v:Value} (he:(V.d y).okb=true) (h:R.den w y v):v.cells.size=y.cells.length:=by
 have h1:=ZcV _ _ (ZgY (R:=R) (v:=.d y) h he)
 have hVc:(V.d y).cells=ZbM y.cells:=by cases y<;>rfl
 rw[hVc,Zmg,length_map] at h1
 simpa using h1
end
section
variable {P:Program} {G:Z1} {R:RP} {w:World} {e:Env} {a:Act} {Hm H':Zi} {nid:Nat} {o:Oper}
theorem ZyC {R':RP}{w':World}{c:Nat}{el:TypeId}{vs:List V}{us:Array Value} (hc:w'.heap[c]? = some (.cells us el (0,0))) (h:ZY R' w' vs us.toList):Zgl R' w' (some c) (.cells vs):=by
 have hl:=ZcV _ _ h
 refine⟨c,us,el,(0,0),rfl,hc,Nat.le_refl _,by simp at hl;omega,fun k v hk=>?_⟩
 obtain⟨u,e1,e2⟩:=ZeB _ _ k v h hk
 exact⟨u,by simpa using e1,e2⟩
theorem Zkl (w:World) (ob:Obj):(w.alloc ob).heap[w.heap.size]? = some ob:=by
 show(w.heap.push ob)[w.heap.size]? = some ob
 simp
theorem ZvK (pre:Pre G R w e a Hm) {z:V}{u:Value}{t:TypeId} (hz:z.okb=true) (hu:Z5 R w z u) (hn:R.M nid=none) (hp:ZK R.H [] nid [.cells z.cells] H') :
  Post R w nid 1 H' (.ptr nid 0) (.pointer (some ⟨w.heap.size,0,none⟩)) (w.alloc (.cells u.cells t)):=by
 refine Post.new (m:=some w.heap.size) _ pre.ok hp hn (.inr rfl) fun R' hx hM hH=>⟨?_,fun _=>?_⟩
 ·exact ZyC (Zkl w _) (hx.denVs pre.ok.b01 _ _ (ZgY hu hz))
 ·exact⟨_,hM,rfl⟩
theorem ZDE (pre:Pre G R w e a Hm) {t:TypeId}{z:V}{zv:Value} (hop:o.op = .alloc t) (hz:ZkC P t=some zv) (hc:cv z zv=true) (hb:z.okb=true) (hn:R.M nid=none) (hp:ZK R.H [] nid [.cells z.cells] H') :
  Zbl P o a w (Post R w nid 1 H' (.ptr nid 0)):=by
 unfold ZkC at hz
 cases hi:P.info? t with
 | none=>rw[hi] at hz;cases hz
 | some i=>
  rw[hi] at hz
  refine Zaq (s:=Instr.alloc t true (.tuple #[])) (u:=.pointer (some ⟨w.heap.size,0,none⟩)) (w':=w.alloc (.cells zv.cells t)) (by unfold execOp;rw[hop]) ?_ (ZvK pre hb (Zsb z zv hc) hn hp)
  simp[Instr.alloc,zeroValue,typeInfo,hi,hz,newVar,newRow]
theorem ZHl (pre:Pre G R w e a Hm) {t:TypeId}{x:Operand}{y:Opd} (hop:o.op = .box t x) (hx:Zz G x y=true) (hb:(y.val e).okb=true) (hn:R.M nid=none) (hp:ZK R.H [] nid [.cells (y.val e).cells] H') :
  Zbl P o a w (Post R w nid 1 H' (.ptr nid 0)):=
 Zaq (s:=Instr.box t (a.eval x)) (u:=.pointer (some ⟨w.heap.size,0,none⟩)) (w':=w.alloc (.cells (a.eval x).cells t)) (by unfold execOp;rw[hop]) (by simp[Instr.box,newVar,newRow]) (ZvK pre hb (pre.opd hx) hn hp)
theorem ZvB:∀(vs:List V) (us:List Value),ZtR vs=true->ZY R w vs us->∀u∈us,u.oneCell'=true
 | [],us,_,h,u,hu=>by simp only[ZY] at h;subst h;cases hu
 | v :: vs,us,hf,h,u,hu=>by
  obtain⟨u0,us',rfl,h1,h2⟩:=h
  simp only[ZtR,aT] at hf
  rcases List.mem_cons.1 hu with rfl | hu
  ·cases v with
   | bad=>cases hf.1
   | tup cs=>cases hf.1
   | agg cs=>cases hf.1
   | d x=>
    cases x with
    | agg cs=>cases hf.1
    | tup cs=>cases hf.1
    | bool b=>cases h1;rfl
    | int k n=>cases h1;rfl
    | str s=>cases h1;rfl
    | nilfn=>cases h1;rfl
    | nilp=>cases h1;rfl
    | nilI=>cases h1;rfl
    | rptr cs=>obtain⟨b,off,rfl,_⟩:=h1;rfl
    | list own xs=>obtain⟨ad,len,cap,rfl,_⟩:=h1;rfl
    | fn f caps=>obtain⟨us,rfl,_⟩:=h1;unfold Zjy;cases isU f<;>cases Nat.beq f 2000000<;>rfl
    | iface t v=>obtain⟨u',rfl,_⟩:=h1;rfl
   | ptr b o=>obtain⟨c,_,rfl⟩:=h1;rfl
   | eptr b sz i k=>obtain⟨c,_,rfl⟩:=h1;rfl
   | sl b sz=>obtain⟨⟨a,n,c,rfl⟩,_⟩:=h1;rfl
   | slp b sz o l=>obtain⟨⟨a,n,c,rfl⟩,_⟩:=h1;rfl
   | nilsl sz=>obtain⟨a,rfl⟩:=h1;rfl
   | fn f caps=>obtain⟨us,rfl,_⟩:=h1;unfold Zjy;cases isU f<;>cases Nat.beq f 2000000<;>rfl
   | mp b=>obtain⟨⟨a,rfl⟩,_⟩:=h1;rfl
   | ch b=>obtain⟨⟨a,rfl⟩,_⟩:=h1;rfl
  ·exact ZvB vs us' hf.2 h2 u hu
structure Els (R:RP) (w:World) (sz:Nat) (xs:List D) (us:List Value):Prop where
 len:us.length=xs.length
 den:∀(j:Nat) x u,xs[j]? = some x->us[j]? = some u->R.den w x u
 size:∀u∈us,u.cells.size=sz
 esc:∀x∈xs,x.esc=true
theorem Els.one {sz:Nat}{xs:List D}{us:List Value} (h:Els R w sz xs us):∀c∈cellsOf us,c.oneCell'=true:=by
 intro c hc
 simp only[cellsOf,List.mem_flatMap] at hc
 obtain⟨u,hu,hc⟩:=hc
 obtain⟨j,hj⟩:=List.mem_iff_getElem?.1 hu
 have hlt:j<xs.length:=by rw[<- h.len];exact(gQ hj).1
 exact Zs3 (h.esc _ (getElem_mem hlt)) (h.den j _ u (gE hlt) hj) c hc
theorem Els.append {sz:Nat}{xs ys:List D}{us vs:List Value} (h:Els R w sz xs us) (k:Els R w sz ys vs):Els R w sz (xs++ys) (us++vs) where
 len:=by simp[h.len,k.len]
 den:=fun j x u hx hu=>by
  by_cases hj:j<xs.length
  ·rw[List.getElem?_append_left hj] at hx
   rw[List.getElem?_append_left (by rw[h.len];exact hj)] at hu
   exact h.den j x u hx hu
  ·rw[List.getElem?_append_right (by omega)] at hx
   rw[List.getElem?_append_right (by rw[h.len];omega),h.len] at hu
   exact k.den _ x u hx hu
 size:=fun u hu=>by
  rcases List.mem_append.1 hu with hu | hu
  ·exact h.size u hu
  ·exact k.size u hu
 esc:=fun x hx=>by
  rcases List.mem_append.1 hx with hx | hx
  ·exact h.esc x hx
  ·exact k.esc x hx
theorem Els.ext {R':RP}{w':World}{sz:Nat}{xs:List D}{us:List Value} (x:Ext R w R' w') (hb:∀c,R.B0 c->R.B1 c) (h:Els R w sz xs us):Els R' w' sz xs us:=
 ⟨h.len,fun j y u hy hu=>x.den hb (h.den j y u hy hu),h.size,h.esc⟩
theorem Els.blk {R':RP}{w':World}{sz c:Nat}{el:TypeId}{xs:List D}{us:List Value}{cs:Array Value} (h:Els R' w' sz xs us) (h0:0<sz) (hc:w'.heap[c]? = some (.cells cs el (0,0)))
  (hcs:∀(j:Nat) v,(cellsOf us)[j]? = some v->cs[j]? = some v):Zgl R' w' (some c) (.arr sz xs):=by
 refine⟨h0,h.esc,.inr ⟨c,cs,el,rfl,hc,?_,fun j x hx=>?_⟩⟩
 ·rw[<- h.len,<- Zdj us h.size]
  rcases Nat.eq_zero_or_pos (cellsOf us).length with hz | hz
  ·omega
  ·have:=hcs ((cellsOf us).length-1) _ (gE (by omega))
   have:=(Array.getElem?_eq_some_iff.1 this).1
   omega
 ·have hlt:j<us.length:=by rw[h.len];exact(gQ hx).1
  have hu:=gE hlt
  exact⟨us[j],h.den j x _ hx hu,h.size _ (getElem_mem hlt),fun k v hk=>hcs _ v (Zef us h.size j k _ v hu hk)⟩
theorem Zsh {c sz:Nat}{xs:List D} (h:Zgl R w (some c) (.arr sz xs)):∃us cs el,Els R w sz xs us/\w.heap[c]? = some (.cells cs el (0,0))/\∀(j:Nat) v,(cellsOf us)[j]? = some v->cs[j]? = some v:=by
 obtain⟨h0,h1,h2⟩:=h
 rcases h2 with⟨h2,_⟩ | ⟨c',cs,el,e1,e2,e3,e4⟩
 ·cases h2
 ·cases e1
  obtain⟨us,f1,f2⟩:=Zg8 xs (fun j x u=>R.den w x u/\u.cells.size=sz/\∀(k:Nat) v,u.cells[k]? = some v->cs[j*sz+k]? = some v) e4
  have hs:∀u∈us,u.cells.size=sz:=fun u hu=>by
   obtain⟨j,hj⟩:=List.mem_iff_getElem?.1 hu
   have hlt:j<xs.length:=by rw[<- f1];exact(gQ hj).1
   exact(f2 j _ u (gE hlt) hj).2.1
  refine⟨us,cs,el,⟨f1,fun j x u hx hu=>(f2 j x u hx hu).1,hs,h1⟩,e2,fun j v hv=>?_⟩
  obtain⟨i,k,u,g1,g2,rfl⟩:=ZoY us hs j v hv
  have hlt:i<xs.length:=by rw[<- f1];exact(gQ g1).1
  exact(f2 i _ u (gE hlt) g1).2.2 k v g2
theorem ZwB (pre:Pre G R w e a Hm) {y:V}{ys:List D}{u:Value}{sz:Nat} (h:elems Hm y=some ys) (hs:Zjz sz ys 0=true) (hu:Z5 R w y u) :
  ∃us ad cap,u = .slice ad ys.length cap/\ys.length<=cap/\Els R w sz ys us/\(ys≠[]->∃b off,ad=some ⟨b,off,none⟩/\∀(j:Nat) v,(cellsOf us)[j]? = some v->w.cell? ⟨b,off+j,none⟩=some v):=by
 have fin:∀{ad:Option Addr} {cap:Nat},u = .slice ad ys.length cap->ys.length<=cap->(∀x∈ys,x.esc=true)->(ys≠[]->∃b off sz',ad=some ⟨b,off,none⟩/\∀(j:Nat) x,ys[j]? = some x->∃u,R.den w x u/\u.cells.size=sz'/\∀(k:Nat) v,u.cells[k]? = some v->w.cell? ⟨b,off+j*sz'+k,none⟩=some v) ->
   ∃us ad cap,u = .slice ad ys.length cap/\ys.length<=cap/\Els R w sz ys us/\(ys≠[]->∃b off,ad=some ⟨b,off,none⟩/\∀(j:Nat) v,(cellsOf us)[j]? = some v->w.cell? ⟨b,off+j,none⟩=some v):=by
  intro ad cap h1 h2 h3 h4
  cases ys with
  | nil=>exact⟨[],ad,cap,h1,h2,⟨rfl,by simp,by simp,by simp⟩,fun h=>absurd rfl h⟩
  | cons y0 ys0=>
   obtain⟨b,off,sz',e1,e2⟩:=h4 (by simp)
   have hsz:sz'=sz:=by
    simp only[Zjz,nth,aT] at hs
    obtain⟨u0,f1,f2,_⟩:=e2 0 y0 rfl
    rw[<- f2,ZoZ hs.2 f1]
    exact nQ hs.1
   subst hsz
   obtain⟨us,f1,f2⟩:=Zg8 (y0 :: ys0) (fun j x u=>R.den w x u/\u.cells.size=sz'/\∀(k:Nat) v,u.cells[k]? = some v->w.cell? ⟨b,off+j*sz'+k,none⟩=some v) e2
   have hss:∀u∈us,u.cells.size=sz':=fun u hu=>by
    obtain⟨j,hj⟩:=List.mem_iff_getElem?.1 hu
    have hlt:j<(y0 :: ys0).length:=by rw[<- f1];exact(gQ hj).1
    exact(f2 j _ u (gE hlt) hj).2.1
   refine⟨us,ad,cap,h1,h2,⟨f1,fun j x u hx hu=>(f2 j x u hx hu).1,hss,h3⟩,fun _=>⟨b,off,e1,fun j v hv=>?_⟩⟩
   obtain⟨i,k,u,g1,g2,rfl⟩:=ZoY us hss j v hv
   have hlt:i<(y0 :: ys0).length:=by rw[<- f1];exact(gQ g1).1
   rw[<- Nat.add_assoc]
   exact(f2 i _ u (gE hlt) g1).2.2 k v g2
 unfold elems at h
 split at h
 ·rename_i own xs'
  simp only[sJ] at h
  subst h
  obtain⟨ad,len,cap,e1,rfl,e3,e4,e5⟩:=hu
  refine fin e1 e3 e4 fun hne=>?_
  obtain⟨b,off,sz',f1,f2,f3,f4⟩:=e5 hne
  refine⟨b,off,sz',f1,fun j x hx=>?_⟩
  obtain⟨u,g1,g2,g3⟩:=ZjH xs' off j x f4 hx
  refine⟨u,?_,g2,g3⟩
  cases own
  ·exact g1
  ·exact g1
 ·rename_i b sz0
  cases hb:nth Hm b with
  | none=>rw[hb] at h;cases h
  | some blk=>
   rw[hb] at h
   cases blk<;>try (cases h;done)
   rename_i sz' xs'
   dsimp only at h
   cases hs':Nat.beq sz0 sz' with
   | false=>rw[hs'] at h;cases h
   | true=>
    rw[hs'] at h
    simp only[cT,sJ] at h
    subst h
    obtain rfl:=nQ hs'
    obtain⟨m,q1,q2,q3,q4⟩:=Znm pre hb hu
    have q5:=q4
    obtain⟨_,ad,cap,e1,q6,q7⟩:=q5
    refine fin e1 q6 q3.2.1 fun hne=>?_
    obtain⟨c,cs,el,fr',cap',rfl,e2,e3,e4,e5⟩:=Zem q4 (.inl (List.length_pos_iff.2 hne))
    rw[e1] at e2;cases e2
    refine⟨c,0*sz0,sz0,rfl,fun j x hx=>?_⟩
    obtain⟨_,_,q3⟩:=q3
    rcases q3 with⟨q3,_⟩ | ⟨c',cs',el',r1,r2,r3,r4⟩
    ·cases q3
    ·cases r1
     obtain⟨u,s1,s2,s3⟩:=r4 j x hx
     exact⟨u,s1,s2,fun k v hk=>by rw[Za2 r2,zero_mul,zero_add];exact s3 k v hk⟩
 ·rename_i b sz0 of len
  cases hb:nth Hm b with
  | none=>rw[hb] at h;cases h
  | some blk=>
   rw[hb] at h
   cases blk<;>try (cases h;done)
   rename_i sz' xs'
   dsimp only at h
   cases hs':Nat.beq sz0 sz' with
   | false=>rw[hs'] at h;cases h
   | true=>
    rw[hs'] at h
    simp only[cT,sJ] at h
    subst h
    obtain rfl:=nQ hs'
    obtain⟨m,q1,q2,q3,q4⟩:=ZkY pre hb hu
    have q5:=q4
    obtain⟨q8,ad,cap,e1,q6,q7⟩:=q5
    have hlen:((xs'.drop of).take len).length=len:=by simp only[length_take,length_drop];omega
    refine fin (by rw[hlen];exact e1) (by rw[hlen];exact q6) (fun x hx=>q3.2.1 x (List.mem_of_mem_drop (List.mem_of_mem_take hx))) fun hne=>?_
    obtain⟨c,cs,el,fr',cap',rfl,e2,e3,e4,e5⟩:=Zem q4 (.inl (by rw[<- hlen];exact List.length_pos_iff.2 hne))
    rw[e1] at e2;cases e2
    refine⟨c,of*sz0,sz0,rfl,fun j x hx=>?_⟩
    obtain⟨_,_,q3⟩:=q3
    rcases q3 with⟨q3,_⟩ | ⟨c',cs',el',r1,r2,r3,r4⟩
    ·cases q3
    ·cases r1
     have hj:j<len:=by rw[<- hlen];exact(gQ hx).1
     rw[List.getElem?_take,if_pos hj,List.getElem?_drop] at hx
     obtain⟨u,s1,s2,s3⟩:=r4 (of+j) x hx
     exact⟨u,s1,s2,fun k v hk=>by rw[Za2 r2,<- s3 k v hk,add_mul]⟩
 ·simp only[sJ] at h
  subst h
  obtain⟨ad,rfl⟩:=hu
  exact fin rfl (Nat.le_refl _) (by simp) (fun h=>absurd rfl h)
 ·cases h
end
end
open Int (le_refl)
section
theorem ZEO {sz i n k:Nat} (hi:i<n) (hk:k<sz):i*sz+k<n*sz:=by
 have:=Nat.mul_le_mul_right sz (Nat.succ_le_of_lt hi)
 rw[succ_mul] at this
 omega
theorem Zp5 {sz:Nat}{us:List Value}{v:Value}{i:Nat} (hs:∀u∈us,u.cells.size=sz) (hv:v.cells.size=sz) (hi:i<us.length):ZS (cellsOf us) (i*sz) v.cells.toList=cellsOf (us.set i v):=by
 have hs':∀u∈us.set i v,u.cells.size=sz:=fun u hu=>by
  rcases List.mem_or_eq_of_mem_set hu with h | h
  ·exact hs u h
  ·rw[h];exact hv
 apply List.ext_getElem?
 intro j
 rw[Za1,Array.length_toList,hv,Zdj us hs]
 by_cases hj:j<us.length*sz
 ·have h0:0<sz:=Nat.pos_of_ne_zero fun h=>by subst h;simp at hj
  have hdm:j=(j / sz)*sz+j % sz:=by rw[Nat.mul_comm];exact(Nat.div_add_mod j sz).symm
  have hq:j / sz<us.length:=Nat.div_lt_of_lt_mul (by rwa [Nat.mul_comm])
  have hk:j % sz<sz:=mod_lt _ h0
  rw[if_pos hj]
  generalize hqq:j / sz=q at *
  generalize hkk:j % sz=k at *
  subst hdm
  have hul:=gE hq
  by_cases hqi:q=i
  ·subst hqi
   rw[if_pos (by omega),Nat.add_sub_cancel_left]
   have hkv:v.cells[k]? = some v.cells[k]:=Array.getElem?_eq_getElem (by omega)
   rw[Zef (us.set q v) hs' q k v _ (by rw[List.getElem?_set,if_pos rfl,if_pos hq]) hkv]
   simp
  ·have hne:¬(i*sz<=q*sz+k/\q*sz+k<i*sz+sz):=by
    rcases Nat.lt_or_gt_of_ne hqi with h | h
    ·have:=ZEO (sz:=sz) h hk;omega
    ·have:=Nat.mul_le_mul_right sz (Nat.succ_le_of_lt h)
     rw[succ_mul] at this;omega
   rw[if_neg hne]
   have hkq:k<us[q].cells.size:=by rw[hs _ (getElem_mem hq)];exact hk
   have hku:us[q].cells[k]? = some us[q].cells[k]:=Array.getElem?_eq_getElem hkq
   rw[Zef us hs q k _ _ hul hku,Zef (us.set i v) hs' q k us[q] _ (by rw[List.getElem?_set,if_neg (fun h=>hqi h.symm)];exact hul) hku]
 ·have h1:(cellsOf us)[j]? = none:=List.getElem?_eq_none (by rw[Zdj us hs];omega)
  have h2:(cellsOf (us.set i v))[j]? = none:=List.getElem?_eq_none (by rw[Zdj _ hs',length_set];omega)
  rw[h1,h2,if_neg hj]
  split<;>rfl
theorem ZpM (z:Value) (n:Nat):((Array.range (n*z.cells.size)).map (z.cells[· % z.cells.size]!)).toList=cellsOf (List.replicate n z):=by
 have hs:∀u∈List.replicate n z,u.cells.size=z.cells.size:=fun u hu=>by rw[(List.mem_replicate.1 hu).2]
 apply List.ext_getElem?
 intro j
 by_cases hj:j<n*z.cells.size
 ·have h0:0<z.cells.size:=Nat.pos_of_ne_zero fun h=>by rw[h] at hj;simp at hj
  have hdm:j=(j / z.cells.size)*z.cells.size+j % z.cells.size:=by rw[Nat.mul_comm];exact(Nat.div_add_mod j _).symm
  have hq:j / z.cells.size<n:=Nat.div_lt_of_lt_mul (by rwa [Nat.mul_comm])
  have hk:j % z.cells.size<z.cells.size:=mod_lt _ h0
  have:=Zef (List.replicate n z) hs (j / z.cells.size) (j % z.cells.size) z _ (by rw[List.getElem?_replicate,if_pos hq]) (Array.getElem?_eq_getElem hk)
  rw[<- hdm] at this
  rw[this]
  simp[hj,getElem!_def,Array.getElem?_eq_getElem hk]
 ·rw[List.getElem?_eq_none (by simp;omega),List.getElem?_eq_none (by rw[Zdj _ hs,length_replicate];omega)]
section
variable {P:Program} {G:Z1} {R:RP} {w:World} {e:Env} {a:Act} {Hm H':Zi} {nid:Nat} {o:Oper}
theorem Els.set {sz:Nat}{xs:List D}{us:List Value}{y:D}{v:Value}{i:Nat} (h:Els R w sz xs us) (hv:R.den w y v) (hs:v.cells.size=sz) (he:y.esc=true):Els R w sz (xs.set i y) (us.set i v) where
 len:=by simp[h.len]
 den:=fun j x u hx hu=>by
  rw[List.getElem?_set] at hx hu
  split at hx
  ·rename_i e
   rw[if_pos e] at hu
   split at hx
   ·cases hx
    split at hu
    ·cases hu;exact hv
    ·cases hu
   ·cases hx
  ·rename_i e
   rw[if_neg e] at hu
   exact h.den j x u hx hu
 size:=fun u hu=>by
  rcases List.mem_or_eq_of_mem_set hu with h1 | h1
  ·exact h.size u h1
  ·rw[h1];exact hs
 esc:=fun x hx=>by
  rcases List.mem_or_eq_of_mem_set hx with h1 | h1
  ·exact h.esc x h1
  ·rw[h1];exact he
theorem Els.rep {sz:Nat}{z:D}{v:Value} (n:Nat) (hv:R.den w z v) (hs:v.cells.size=sz) (he:z.esc=true):Els R w sz (List.replicate n z) (List.replicate n v) where
 len:=by simp
 den:=fun j x u hx hu=>by
  rw[List.getElem?_replicate] at hx hu
  split at hx
  ·cases hx
   rename_i hj
   rw[if_pos hj] at hu;cases hu;exact hv
  ·cases hx
 size:=fun u hu=>by rw[(List.mem_replicate.1 hu).2];exact hs
 esc:=fun x hx=>by rw[(List.mem_replicate.1 hx).2];exact he
theorem ZrN (ok:R.OK w) {sz cap:Nat}{xs:List D}{us:List Value}{cs:Array Value}{el:TypeId} (h0:0<sz) (h:Els R w sz xs us) (hcs:∀(j:Nat) v,(cellsOf us)[j]? = some v->cs[j]? = some v) (hsz:cs.size=cap*sz) (hcap:xs.length<=cap)
  (hn:R.M nid=none) (hp:ZK R.H [] nid [.arr sz xs] H'):Post R w nid 1 H' (.sl nid sz) (.slice (some ⟨w.heap.size,0,none⟩) xs.length cap) (w.alloc (.cells cs el)):=by
 refine Post.new (m:=some w.heap.size) _ ok hp hn (.inr rfl) fun R' hx hM hH=>⟨?_,fun _=>?_⟩
 ·exact Els.blk (h.ext hx ok.b01) h0 (Zkl w _) hcs
 ·refine⟨⟨_,_,_,rfl⟩,_,hM,fun ys hy=>?_⟩
  rw[ZI,hH] at hy;cases hy
  exact⟨by omega,_,_,rfl,hcap,.inr ⟨w.heap.size,cs,el,(0,0),rfl,by rw[zero_mul],Zkl w _,by rw[hsz,zero_add]⟩⟩
def Zrt (G:Z1):List (Nat×Operand)->List (Nat×Opd)->Bool
 | [],[]=>true
 | (i,x) :: r,(j,y) :: s=>Nat.beq i j&&Zz G x y&&Zrt G r s
 | _,_=>false
theorem ZxA (pre:Pre G R w e a Hm) {sz:Nat}{R1:RP}{ks':List Nat} (hL:Zij R R1 ks'):∀(ps:List (Nat×Operand)) (qs:List (Nat×Opd)) (xs:List D) (us:List Value) (cells:Array Value) (xs':List D) (ks:List Nat),Zrt G ps qs=true ->
  cells.toList=cellsOf us->Els R1 w sz xs us->Zsn Hm sz xs (qs.map fun(i,x)=>(i,x.val e))=some (xs',ks)->(∀k∈ks,k∈ks') ->
  ∃cells' us',Instr.fill (fun i=>some (i*sz,sz)) cells (ps.map fun(i,x)=>(i,a.eval x))=some cells'/\cells'.toList=cellsOf us'/\Els R1 w sz xs' us'/\xs'.length=xs.length
 | [],[],xs,us,cells,xs',ks,_,hc,hE,h,_=>by
  simp only[List.map_nil,Zsn,sJ,pJ] at h
  obtain⟨rfl,rfl⟩:=h
  exact⟨cells,us,rfl,hc,hE,rfl⟩
 | [],_ :: _,xs,us,cells,xs',ks,hp,_,_,_,_=>by cases hp
 | _ :: _,[],xs,us,cells,xs',ks,hp,_,_,_,_=>by cases hp
 | (i,x) :: ps,(i',y) :: qs,xs,us,cells,xs',ks,hp,hc,hE,h,hks=>by
  simp only[Zrt,aT] at hp
  obtain⟨⟨h1,h2⟩,h3⟩:=hp
  obtain rfl:=nQ h1
  simp only[map_cons,Zsn] at h
  cases hf:fr Hm 6 (y.val e) with
  | none=>rw[hf] at h;cases h
  | some q=>
   obtain⟨z,k1⟩:=q
   rw[hf] at h
   dsimp only at h
   cases hcond:(Nat.blt i xs.length&&Nat.beq z.cells.length sz&&(V.d z).okb) with
   | false=>rw[hcond] at h;cases h
   | true=>
    rw[hcond] at h
    simp only[cT] at h
    simp only[aT] at hcond
    have hi:i<xs.length:=by have:=hcond.1.1;simp[Nat.blt] at this;omega
    cases hr:Zsn Hm sz (ZbL xs i z) (qs.map fun(i,x)=>(i,x.val e)) with
    | none=>rw[hr] at h;cases h
    | some q2=>
     obtain⟨l,k2⟩:=q2
     rw[hr] at h
     simp only[sJ,pJ] at h
     obtain⟨rfl,rfl⟩:=h
     have hv:=pre.opd h2
     obtain⟨g1,g2⟩:=Zmn 6 _ z k1 pre hf hL (fun k hk=>hks k (by simp[hk])) _ hv
     have hz:R1.den w z (a.eval x):=g2 _ _
     have hze:z.esc=true:=by
      rcases g1 with g1 | ⟨ts,rfl⟩
      ·exact g1
      ·cases hcond.2
     have hzs:(a.eval x).cells.size=sz:=by rw[ZoZ hcond.2 hz];exact nQ hcond.1.2
     have hiu:i<us.length:=by rw[hE.len];exact hi
     rw[Zah] at hr
     obtain⟨cells',us',e1,e2,e3,e4⟩:=ZxA pre hL ps qs (xs.set i z) (us.set i (a.eval x)) ((a.eval x).cells.zipIdx.foldl (fun cs (c,j)=>cs.setIfInBounds (i*sz+j) c) cells) l k2 h3 (by
      have:((a.eval x).cells.zipIdx.foldl (fun cs (c,j)=>cs.setIfInBounds (i*sz+j) c) cells).toList=ZS cells.toList (i*sz) (a.eval x).cells.toList:=by
       rw[<- Array.foldl_toList,Array.toList_zipIdx]
       exact Zsv _ 0 _ cells
      rw[this,hc,Zp5 hE.size hzs hiu]) (hE.set hz hzs hze) hr (fun k hk=>hks k (by simp[hk]))
     refine⟨cells',us',?_,e2,e3,by rw[e4,length_set]⟩
     simp only[map_cons,Instr.fill]
     rw[if_neg ?_]
     ·exact e1
     ·have hcl:cells.size=us.length*sz:=by rw[<- Array.length_toList,hc,Zdj us hE.size]
      have:=Nat.mul_le_mul_right sz (Nat.succ_le_of_lt hiu)
      rw[succ_mul] at this
      simp[hzs,hcl];omega
structure Zvr (P:Program) (t el:TypeId) (sz:Nat) (i:TypeInfo) (zv:Value):Prop where
 u:P.underlying t=some (.slice el)
 inf:P.info? el=some i
 s:i.size=sz
 z:i.zero=some zv
 zs:zv.cells.size=sz
 pos:0<sz
 by_:i.bytes<=131072
theorem Zzm (pre:Pre G R w e a Hm) {t el:TypeId}{sz:Nat}{i:TypeInfo}{zv:Value}{parts:Array (Nat×Operand)} (hop:o.op = .buildSlice t 0 parts) (he:Zvr P t el sz i zv) (hps:parts = #[]) (hp:ZK R.H [] nid [] H') :
  Zbl P o a w (Post R w nid 0 H' (.nilsl sz)):=by
 subst hps
 refine Zaq (s:=Instr.buildSlice t 0 (#[].map fun(i,x)=>(i,a.eval x))) (u:=.slice (some ⟨w.heap.size,0,none⟩) 0 0) (w':=w.alloc (.cells #[] el)) (by unfold execOp;rw[hop]) ?_ (Post.junk _ pre.ok hp ⟨_,rfl⟩)
 simp[Instr.buildSlice,run_underlying he.u,sizeOf,typeInfo,he.inf,Instr.fill,newRow,Array.range_zero']
theorem ZDp (pre:Pre G R w e a Hm) {n:Nat}{ag:Bool}{t:TypeId}{x:Operand}{y:Opd}{v:V}{z:D}{ks:List Nat} (hop:o.op = .load t x) (hx:Zz G x y=true) (hag:Zhz P t=some ag) (hsz:Zfb P t=some n)
  (h:Zb5 Hm n ag (y.val e)=some v) (hf:fr Hm 6 v=some (z,ks)) (hp:ZK R.H (Zeg ks) nid [] H'):Zbl P o a w (Post R w nid 0 H' (.d z)):=by
 have ok1:RP.OK { R with H:=Zbc R.H (Zeg ks) } w:=pre.ok.kill (fun i blk=>ZfP ks _ i blk)
 obtain⟨u,h1,h2⟩:=Zun pre hag hsz (pre.opd hx) h
 obtain⟨_,g⟩:=Zmn 6 v z ks pre hf (Zij.kill R ks) (fun _ h=>h) u h2
 exact Zaq (s:=Instr.loadAt t (a.eval x)) (by unfold execOp;rw[hop]) h1 (Post.afterKill pre.ok (Post.stay ok1 hp (g _ _)))
theorem ZA2 (f:Nat->Value) (n:Int):Instr.fill (fun k=>some (k*1,1)) ((Array.range (1*1)).map f) [(0,Value.int .i64 n)]=some #[.int .i64 n]:=by
 have hr:Array.range (1*1) = #[0]:=by decide
 rw[hr]
 simp[Instr.fill,Value.cells]
theorem ZGv (pre:Pre G R w e a Hm) {t el:TypeId}{i:TypeInfo}{zv:Value}{x:Operand}{y:Opd}{n:Int} (hop:o.op = .buildSlice t 1 #[(0,x)]) (he:Zvr P t el 1 i zv) (hx:Zz G x y=true) (hv:y.val e = .d (.int .i64 n)) (hp:ZK R.H [] nid [] H') :
  Zbl P o a w (Post R w nid 0 H' (.d (.list true [.int .i64 n]))):=by
 have hxv:=pre.opd hx
 rw[hv] at hxv
 have hxe:a.eval x = .int .i64 n:=hxv
 refine Zaq (s:=Instr.buildSlice t 1 (#[(0,x)].map fun(i,x)=>(i,a.eval x))) (u:=.slice (some ⟨w.heap.size,0,none⟩) 1 1) (w':=w.alloc (.cells #[.int .i64 n] el)) (by unfold execOp;rw[hop]) ?_ (Post.junk _ pre.ok hp ?_)
 ·have hf:Instr.fill (fun k=>some (k*i.size,i.size)) ((Array.range (1*i.size)).map (zv.cells[· % zv.cells.size]!)) [(0,Value.int .i64 n)]=some #[.int .i64 n]:=by
   rw[he.s]
   exact ZA2 _ _
  have:=Go.run_buildSlice (P:=P) w t el 1 #[(0,Value.int .i64 n)] #[.int .i64 n] i zv he.u he.inf he.z (by rw[he.s];decide) (by rw[he.s];decide) hf
  simpa [hxe] using this
 ·refine⟨_,1,1,rfl,rfl,Nat.le_refl _,fun z hz=>?_,fun _=>⟨w.heap.size,0,1,rfl,⟨fun hl=>?_,fun hb=>?_⟩,by simp,⟨.int .i64 n,rfl,rfl,fun k v hk=>?_⟩,trivial⟩⟩
  ·rw[List.mem_singleton.1 hz];rfl
  ·obtain⟨j,_,hj⟩:=hl
   exact absurd (pre.ok.lt j _ hj) (Nat.lt_irrefl _)
  ·exact absurd (pre.ok.bl _ hb) (Nat.lt_irrefl _)
  ·have h00:k=0:=by
    have:=(Array.getElem?_eq_some_iff.1 hk).1
    simp[Value.cells] at this
    omega
   subst h00
   cases hk
   rw[World.cell?_alloc_new]
   rfl
theorem ZCY (pre:Pre G R w e a Hm) {t el:TypeId}{sz len:Nat}{i:TypeInfo}{zv:Value}{parts:Array (Nat×Operand)}{z:D}{ps:List (Nat×Opd)}{xs:List D}{ks:List Nat} (hop:o.op = .buildSlice t len parts) (he:Zvr P t el sz i zv) (hz:cv (.d z) zv=true) (hze:z.esc=true)
  (hl0:len≠0) (hl:len*sz<=16777216) (hps:Zrt G parts.toList ps=true) (h:Zsn Hm sz (List.replicate len z) (ps.map fun(i,x)=>(i,x.val e))=some (xs,ks)) (hn:R.M nid=none) (hp:ZK R.H (Zeg ks) nid [.arr sz xs] H') :
  Zbl P o a w (Post R w nid 1 H' (.sl nid sz)):=by
 have hL:=Zij.kill R ks
 have ok1:RP.OK { R with H:=Zbc R.H (Zeg ks) } w:=pre.ok.kill (fun i blk=>ZfP ks _ i blk)
 have hzd:∀R1:RP,R1.den w z zv:=fun R1=>Zsb (R:=R1) (.d z) zv hz
 obtain⟨cells',us',f1,f2,f3,f4⟩:=ZxA pre hL parts.toList ps (List.replicate len z) (List.replicate len zv) ((Array.range (len*zv.cells.size)).map (zv.cells[· % zv.cells.size]!)) xs ks hps (ZpM zv len) (Els.rep len (hzd _) he.zs hze) h (fun _ h=>h)
 have hlen:xs.length=len:=by rw[f4,length_replicate]
 refine Zaq (s:=Instr.buildSlice t len (parts.map fun(i,x)=>(i,a.eval x))) (u:=.slice (some ⟨w.heap.size,0,none⟩) xs.length len) (w':=w.alloc (.cells cells' el)) (by unfold execOp;rw[hop]) ?_ (Post.afterKill pre.ok (ZrN ok1 he.pos f3 (fun j v hv=>by rw[<- f2] at hv;simpa using hv) ?_ (by omega) hn hp))
 ·have hne:¬(len*sz=0):=by
   have:=Nat.mul_pos (Nat.pos_of_ne_zero hl0) he.pos
   omega
  have hbig:¬(16777216<len*sz):=by omega
  rw[he.zs] at f1
  have f1':Instr.fill (fun i=>some (i*sz,sz)) ((Array.range (len*sz)).map (zv.cells[· % sz]!)) (parts.map fun(i,x)=>(i,a.eval x)).toList=some cells':=by
   rw[Array.toList_map];exact f1
  rw[hlen]
  simp only[Instr.buildSlice,Sem.run_bind,run_underlying he.u,Result.andThen_ok,Zc6 (P:=P) (show Zfb P el=some sz by simp[Zfb,he.inf,he.s]),Nat.reducePow,hbig,if_false,hne,zeroValue,typeInfo,run_program,he.inf,he.z,Sem.run_pure,he.zs,f1',newRow,run_newObj_alloc]
 ·rw[<- Array.length_toList,f2,Zdj us' f3.size,f3.len,hlen]
theorem Zzk (pre:Pre G R w e a Hm) {t el:TypeId}{sz:Nat}{i:TypeInfo}{zv:Value}{x y:Operand}{x' y':Opd}{z:D}{k1 k2:IntKind}{n:Int} (hop:o.op = .makeSlice t x y) (he:Zvr P t el sz i zv) (hz:cv (.d z) zv=true) (hze:z.esc=true)
  (hx:Zz G x x'=true) (hy:Zz G y y'=true) (h1:x'.val e = .d (.int k1 n)) (h2:y'.val e = .d (.int k2 n)) (h0:0<=n) (hl:n<=lim) (hn:R.M nid=none) (hp:ZK R.H [] nid [.arr sz (List.replicate n.toNat z)] H') :
  Zbl P o a w (Post R w nid 1 H' (.sl nid sz)):=by
 have hv1:=pre.opd hx
 have hv2:=pre.opd hy
 rw[h1] at hv1
 rw[h2] at hv2
 have hzd:R.den w z zv:=Zsb (R:=R) (.d z) zv hz
 have hl':n<=1073741824:=hl
 have hrun:=run_make (P:=P) w t el i zv he.u he.inf he.z k1 k2 n n h0 (le_refl _) (by
  have hb:=he.by_
  have:(i.bytes:Int)*n<=131072*n:=Int.mul_le_mul_of_nonneg_right (by omega) h0
  omega) (by omega)
 refine Zaq (s:=Instr.makeSlice t (a.eval x) (a.eval y)) (u:=.slice (some ⟨w.heap.size,0,none⟩) (List.replicate n.toNat z).length n.toNat) (w':=w.alloc (.cells (madeCells zv.cells (n.toNat*i.size)) el)) (by unfold execOp;rw[hop]) (by rw[ZjE hv1,ZjE hv2,length_replicate];exact hrun)
  (ZrN pre.ok he.pos (Els.rep n.toNat hzd he.zs hze) ?_ (by rw[size_madeCells,he.s]) (by simp) hn hp)
 intro j v hv
 rw[<- ZpM,he.zs] at hv
 have hm:madeCells zv.cells (n.toNat*i.size)=(Array.range (n.toNat*sz)).map (zv.cells[· % sz]!):=by unfold madeCells;rw[he.s,he.zs]
 rw[hm,<- Array.getElem?_toList]
 exact hv
theorem ZHy (pre:Pre G R w e a Hm) {t el:TypeId}{sz:Nat}{i:TypeInfo}{zv:Value}{x y:Operand}{x' y':Opd}{z:D}{k1 k2:IntKind}{n:Int} (hop:o.op = .makeSlice t x y) (he:Zvr P t el sz i zv) (hz:cv (.d z) zv=true) (hze:z.esc=true)
  (hx:Zz G x x'=true) (hy:Zz G y y'=true) (h1:x'.val e = .d (.int k1 n)) (h2:y'.val e = .d (.int k2 n)) (h0:0<=n) (hl:n<=lim) (hp:ZK R.H [] nid [] H') :
  Zbl P o a w (Post R w nid 0 H' (.d (.list true (List.replicate n.toNat z)))):=by
 have hv1:=pre.opd hx
 have hv2:=pre.opd hy
 rw[h1] at hv1
 rw[h2] at hv2
 have hzd:R.den w z zv:=Zsb (R:=R) (.d z) zv hz
 have hl':n<=1073741824:=hl
 have hrun:=run_make (P:=P) w t el i zv he.u he.inf he.z k1 k2 n n h0 (le_refl _) (by
  have hb:=he.by_
  have:(i.bytes:Int)*n<=131072*n:=Int.mul_le_mul_of_nonneg_right (by omega) h0
  omega) (by omega)
 have hE:Els R w sz (List.replicate n.toNat z) (List.replicate n.toNat zv):=Els.rep n.toNat hzd he.zs hze
 refine Zaq (s:=Instr.makeSlice t (a.eval x) (a.eval y)) (u:=.slice (some ⟨w.heap.size,0,none⟩) (List.replicate n.toNat z).length n.toNat) (w':=w.alloc (.cells (madeCells zv.cells (n.toNat*i.size)) el)) (by unfold execOp;rw[hop]) (by rw[ZjE hv1,ZjE hv2,length_replicate];exact hrun)
  (Post.junk _ pre.ok hp ⟨some ⟨w.heap.size,0,none⟩,(List.replicate n.toNat z).length,n.toNat,rfl,rfl,by simp,hE.esc,fun _=>⟨w.heap.size,0,sz,rfl,⟨fun hl=>?_,fun hb=>?_⟩,by simp,Zh6 _ 0 fun j x hj=>?_⟩⟩)
 ·obtain⟨j,_,hj⟩:=hl
  exact absurd (pre.ok.lt j _ hj) (Nat.lt_irrefl _)
 ·exact absurd (pre.ok.bl _ hb) (Nat.lt_irrefl _)
 ·have hju:j<(List.replicate n.toNat zv).length:=by rw[hE.len];exact(gQ hj).1
  have hu:(List.replicate n.toNat zv)[j]? = some (List.replicate n.toNat zv)[j]:=gE hju
  refine⟨_,(Ext.junk R w _).den pre.ok.b01 (hE.den j x _ hj hu),hE.size _ (getElem_mem hju),fun k v hk=>?_⟩
  have hfl:=Zef _ hE.size j k _ v hu hk
  rw[<- ZpM,he.zs] at hfl
  have hm:madeCells zv.cells (n.toNat*i.size)=(Array.range (n.toNat*sz)).map (zv.cells[· % sz]!):=by unfold madeCells;rw[he.s,he.zs]
  rw[Za2 (Zkl w _),hm,<- Array.getElem?_toList]
  have e:0+j*sz+k=j*sz+k:=by omega
  rw[e]
  exact hfl
end
end
section
theorem ZsR {α:Type}{A B vs:List α}{o:Nat} (h:∀(j:Nat) v,A[j]? = some v->B[j]? = some v):∀(j:Nat) v,(ZS A o vs)[j]? = some v->(ZS B o vs)[j]? = some v:=by
 intro j v hj
 rw[Za1] at hj ⊢
 split at hj
 ·rename_i hc
  rw[if_pos hc]
  split at hj
  ·rename_i hl
   have:=h j _ (gE hl)
   rw[if_pos (gQ this).1]
   exact hj
  ·cases hj
 ·rename_i hc
  rw[if_neg hc]
  exact h j v hj
theorem ZtU {α:Type}{A cs vs:List α}{o k:Nat} (hA:∀(j:Nat),j<cs.length->A[o+j]? = cs[j]?) (hk:k+vs.length<=cs.length):ZS A o (ZS cs k vs)=ZS A (o+k) vs:=by
 apply List.ext_getElem?
 intro j
 rw[Za1,Za1,Zb7,Za1]
 by_cases h2:o<=j/\j<o+cs.length
 ·have hA':=hA (j-o) (by omega)
  rw[show o+(j-o)=j by omega] at hA'
  have hjA:j<A.length:=by
   rw[gE (show j-o<cs.length by omega)] at hA'
   exact(gQ hA').1
  rw[if_pos h2,if_pos hjA]
  by_cases h1:o+k<=j/\j<o+k+vs.length
  ·rw[if_pos (show k<=j-o/\j-o<k+vs.length by omega),if_pos (show j-o<cs.length by omega),if_pos h1,if_pos hjA]
   congr 1;omega
  ·rw[if_neg (show ¬(k<=j-o/\j-o<k+vs.length) by omega),if_neg h1,hA']
 ·rw[if_neg h2,if_neg (by omega)]
theorem ZvT:∀(cs:List D),D.escs cs=true↔∀c∈cs,c.esc=true/\c.isAgg=false
 | []=>by simp[D.escs]
 | c :: cs=>by
  simp only[D.escs,aT,Bool.not_eq_true',ZvT cs,mem_cons,forall_eq_or_imp,and_assoc]
theorem ZBA (vs cs:List D) (k:Nat) (h:D.escs cs=true) (hv:D.escs vs=true):D.escs (ZS cs k vs)=true:=by
 rw[ZvT] at h hv ⊢
 intro c hc
 obtain⟨j,hj⟩:=List.mem_iff_getElem?.1 hc
 rw[Za1] at hj
 split at hj
 ·split at hj
  ·exact hv c (mG hj)
  ·cases hj
 ·exact h c (mG hj)
theorem Zwq {y:D} (he:y.esc=true):D.escs y.cells=true:=by
 cases y<;>simp_all [D.cells,D.escs,D.esc,D.isAgg]
theorem Zsc:∀(l:List Nat) (b:Nat),ZhC l b=true↔b∈l
 | [],b=>by simp[ZhC]
 | a :: l,b=>by
  simp only[ZhC,mem_cons]
  cases h:Nat.beq a b with
  | true=>obtain rfl:=nQ h;simp
  | false=>
   have:b≠a:=fun e=>by subst e;rw[beq_refl] at h;cases h
   simp[Zsc l b,this]
section
variable {P:Program} {G:Z1} {R:RP} {w:World} {e:Env} {a:Act} {Hm H':Zi} {nid:Nat} {o:Oper}
theorem Zp8 {t:TypeId}{n b off:Nat}{u:Value}{cs:Array Value}{el:TypeId}{fr:Nat×Nat} (hsz:Zfb P t=some n) (hn:u.cells.size=n) (hc:w.heap[b]? = some (.cells cs el fr)) (hf:ZuT fr) (hlen:off+n<=cs.size) (h1:∀v∈u.cells.toList,v.oneCell'=true) :
  (Instr.storeAt t (.pointer (some ⟨b,off,none⟩)) u).run P w = .ok () (w.setCells b off u.cells.toList):=by
 have hst:=run_storeCells_cells (P:=P) b off u.cells.toList 0 w (fun j hj=>by
  rw[Za2 hc]
  have:off+0+j<cs.size:=by simp at hj;omega
  rw[Array.getElem?_eq_getElem this];rfl) (fun j _=>hf.not hc _) h1
 simp only[add_zero] at hst
 simp[Instr.storeAt,Instr.sureAddr,storeVar,Zc6 hsz,hn,hst]
theorem ZwT {s:Sem Unit}{w':World}{Po:Value->World->Prop} (hx:execOp a.eval o=(do s;pure .skip)) (hr:s.run P w = .ok () w') (hp:Po undef w'):Zbl P o a w Po:=
 .inr (.inl ⟨w',by rw[hx];simp[hr],hp⟩)
theorem Zye (pre:Pre G R w e a Hm) {t:TypeId}{n:Nat}{x y:Operand}{x' y':Opd}{up:List (Nat×Blk)}{nw:List Blk}{r:V} (hop:o.op = .store t x y) (hx:Zz G x x'=true) (hy:Zz G y y'=true) (hsz:Zfb P t=some n)
  (h:ZkU Hm n (x'.val e) (y'.val e)=some (r,up,nw)) (hp:ZK R.H up nid nw H'):Zbl P o a w (Post R w nid nw.length H' r):=by
 have hv1:=pre.opd hx
 have hv2:=pre.opd hy
 unfold ZkU at h
 split at h
 ·rename_i b off hxe
  rw[hxe] at hv1
  cases hb:nth Hm b with
  | none=>rw[hb] at h;cases h
  | some blk=>
   rw[hb] at h
   cases blk<;>try (cases h;done)
   rename_i cs
   dsimp only at h
   cases hc:(Nat.beq (y'.val e).cells.length n&&Nat.ble (off+n) cs.length&&(y'.val e).okb&&ZtR (y'.val e).cells) with
   | false=>rw[hc] at h;cases h
   | true=>
    rw[hc] at h
    simp only[cT,sJ,pJ] at h
    obtain⟨rfl,rfl,rfl⟩:=h
    simp only[aT,ble_eq] at hc
    obtain⟨⟨⟨c1,c2⟩,c3⟩,c4⟩:=hc
    have hcn:=nQ c1
    have hb':=pre.le b _ hb (by simp)
    obtain⟨c,h1,hpt⟩:=hv1
    rw[ZI] at hb'
    obtain⟨c',cs',el,fr,e1,e2,e3,e4,e5⟩:=pre.ok.blk b _ _ hb' h1
    cases e1
    have hcells:=ZgY hv2 c3
    have hlen:=ZcV _ _ hcells
    simp only[Array.length_toList] at hlen
    have hrun:=Zp8 (P:=P) (u:=a.eval y) (off:=off) hsz (by omega) e2 e3 (by omega) (ZvB _ _ c4 hcells)
    obtain⟨⟨cs1,g1,g2⟩,g3,g4,g5,g6,g7⟩:=Zei c (a.eval y).cells.toList off w cs' el fr e2
    refine ZwT (s:=Instr.storeAt t (a.eval x) (a.eval y)) (by unfold execOp;rw[hop]) (by rw[hpt];exact hrun) ?_
    have hl1:cs1.size=cs'.size:=by rw[<- Array.length_toList,g1,Zb7,Array.length_toList]
    refine Post.write (ks:=[]) pre.ok hb' h1 (by simp[Blk.like]) e2 g2 hl1 g3 g4 g5 g6 g7 (by simp) hp (fun R' hx hL hlv hb0=>?_) (fun R' hx hM hh=>trivial)
    refine⟨c,cs1,el,fr,rfl,g2,e3,by rw[Zb7,hl1];exact e4,fun k v hk=>?_⟩
    rw[Za1] at hk
    rw[<- Array.getElem?_toList,g1,Za1,Array.length_toList,hlen]
    split at hk
    ·rename_i hr
     rw[if_pos hr]
     split at hk
     ·rename_i hkl
      rw[if_pos (by simp;omega)]
      obtain⟨u,q1,q2⟩:=ZeB _ _ _ v hcells hk
      exact⟨u,q1,hx.denV pre.ok.b01 _ _ q2⟩
     ·cases hk
    ·rename_i hr
     rw[if_neg hr]
     obtain⟨u,q1,q2⟩:=e5 k v hk
     exact⟨u,by simpa using q1,hx.denV pre.ok.b01 _ _ q2⟩
 ·rename_i b sz i k hxe
  rw[hxe] at hv1
  cases hb:nth Hm b with
  | none=>rw[hb] at h;cases h
  | some blk=>
   rw[hb] at h
   cases blk<;>try (cases h;done)
   rename_i sz' xs
   dsimp only at h
   cases hs:Nat.beq sz sz' with
   | false=>rw[hs] at h;cases h
   | true=>
    rw[hs] at h
    obtain rfl:=nQ hs
    simp only[cT] at h
    cases hxi:nth xs i with
    | none=>rw[hxi] at h;cases h
    | some x0=>
     cases hfr:fr Hm 6 (y'.val e) with
     | none=>rw[hxi,hfr] at h;cases h
     | some q=>
      obtain⟨z,ks⟩:=q
      rw[hxi,hfr] at h
      dsimp only at h
      cases hel:ZhC ks b with
      | true=>rw[hel] at h;cases h
      | false=>
       rw[hel] at h
       simp only[cF] at h
       cases hc:(Nat.beq z.cells.length n&&Nat.ble (k+n) x0.cells.length&&(V.d z).okb&&(x0.isAgg || !z.isAgg)) with
       | false=>rw[hc] at h;cases h
       | true=>
        rw[hc] at h
        simp only[cT,sJ,pJ] at h
        obtain⟨rfl,rfl,rfl⟩:=h
        simp only[aT,ble_eq] at hc
        obtain⟨⟨⟨c1,c2⟩,c3⟩,c4⟩:=hc
        have hcn:=nQ c1
        have hb':=pre.le b _ hb (by simp)
        obtain⟨c,h1,hpt⟩:=hv1
        rw[ZI] at hb' hxi
        have hblk:=pre.ok.blk b _ _ hb' h1
        obtain⟨us,cs,el,hE,e2,e3⟩:=Zsh hblk
        have hiu:i<us.length:=by rw[hE.len];exact(gQ hxi).1
        have hu0:=gE hiu
        have hd0:R.den w x0 us[i]:=hE.den i x0 _ hxi hu0
        have hx0e:x0.esc=true:=hE.esc x0 (mG hxi)
        have hx0b:(V.d x0).okb=true:=by cases x0<;>simp_all [V.okb,D.esc]
        have hs0:us[i].cells.size=x0.cells.length:=ZoZ hx0b hd0
        have hssz:us[i].cells.size=sz:=hE.size _ (getElem_mem hiu)
        have hvs:∀R1:RP,Zij R R1 ks->R1.den w z (a.eval y)/\(∀A0' AL',Zaf R1.A1 A0' AL' w z (a.eval y))/\z.esc=true:=by
         intro R1 hL
         obtain⟨q1,q2⟩:=Zmn 6 _ z ks pre hfr hL (fun _ h=>h) _ hv2
         refine⟨q2 _ _,q2,?_⟩
         rcases q1 with q1 | ⟨ts,rfl⟩
         ·exact q1
         ·cases c3
        obtain⟨hz1,_,hze⟩:=hvs _ (Zij.kill R ks)
        have hzs:(a.eval y).cells.size=n:=by rw[ZoZ c3 hz1];exact hcn
        have hone:=Zs3 hze hz1
        have hcl:us.length*sz<=cs.size:=by
         rw[<- Zdj us hE.size]
         rcases Nat.eq_zero_or_pos (cellsOf us).length with hz | hz
         ·omega
         ·have:=e3 ((cellsOf us).length-1) _ (gE (by omega))
          have:=(Array.getElem?_eq_some_iff.1 this).1
          omega
        have hroom:i*sz+k+n<=cs.size:=by
         have:=Nat.mul_le_mul_right sz (Nat.succ_le_of_lt hiu)
         rw[succ_mul] at this
         omega
        have hrun:=Zp8 (P:=P) (u:=a.eval y) (off:=i*sz+k) hsz hzs e2 (show ZuT (0,0) from Nat.le_refl _) (by omega) hone
        obtain⟨⟨cs1,g1,g2⟩,g3,g4,g5,g6,g7⟩:=Zei c (a.eval y).cells.toList (i*sz+k) w cs el (0,0) e2
        refine ZwT (s:=Instr.storeAt t (a.eval x) (a.eval y)) (by unfold execOp;rw[hop]) (by rw[hpt];exact hrun) ?_
        have hl1:cs1.size=cs.size:=by rw[<- Array.length_toList,g1,Zb7,Array.length_toList]
        have hbk:b∉ks:=fun hm=>by rw[(Zsc ks b).2 hm] at hel;cases hel
        refine Post.write (ks:=ks) pre.ok hb' h1 (by simp[Blk.like,Zah]) e2 g2 hl1 g3 g4 g5 g6 g7 hbk hp (fun R' hx hL hlv hb0=>?_) (fun R' hx hM hh=>trivial)
        obtain⟨hz2,hz3,_⟩:=hvs R' hL
        have b01':∀c,R'.B0 c->R'.B1 c:=fun c hc=>by rw[hL.b1];rw[hb0] at hc;exact pre.ok.b01 c hc
        have hz4:R'.den (w.setCells c (i*sz+k) (a.eval y).cells.toList) z (a.eval y):=by
         refine Zaf.change R'.A1 R'.A1 R'.A1 R'.A0 (fun _ _ h=>h) (fun _ _ h=>⟨h.1,fun h0=>h.2 (b01' _ h0)⟩) (fun _ _ h=>h) (fun b' _ hAL=>g3 b' fun e=>?_) (by omega) (fun _ h=>h.1) (fun _ h=>h.1) z _ (hz3 R'.A1 R'.AL)
         subst e;exact hAL hlv
        have hE':=hE.ext hx pre.ok.b01
        have hd0':R'.den (w.setCells c (i*sz+k) (a.eval y).cells.toList) x0 us[i]:=hE'.den i x0 _ hxi hu0
        have key:∃u',R'.den (w.setCells c (i*sz+k) (a.eval y).cells.toList) (bif x0.isAgg then .agg (ZS x0.cells k z.cells) else z) u'/\u'.cells.toList=ZS us[i].cells.toList k (a.eval y).cells.toList/\(bif x0.isAgg then D.agg (ZS x0.cells k z.cells) else z).esc=true:=by
         cases hagg:x0.isAgg with
         | true=>
          cases x0<;>try (cases hagg;done)
          rename_i ds
          obtain⟨us0,f1,f2⟩:=hd0'
          have f3:=(ZcC ds us0).2 f2
          have hzc:=ZgY (R:=R') (v:=.d z) hz4 c3
          have hVc:(V.d z).cells=ZbM z.cells:=by cases z<;>rfl
          rw[hVc] at hzc
          have f4:=Zs5 f3 hzc k
          have f5:ZS (ZbM ds) k (ZbM z.cells)=ZbM (ZS ds k z.cells):=by
           apply List.ext_getElem?
           intro j
           simp only[Zmg,Za1,List.getElem?_map,length_map]
           split
           ·split<;>simp
           ·rfl
          rw[f5,ZcC] at f4
          refine⟨.agg (ZS us0 k (a.eval y).cells.toList).toArray,⟨_,rfl,f4⟩,by simp[Value.cells,f1],?_⟩
          exact ZBA _ _ _ hx0e (Zwq hze)
         | false=>
          have hza:z.isAgg=false:=by rw[hagg] at c4;simpa using c4
          have hx1:x0.cells=[x0]:=by cases x0<;>simp_all [D.cells,D.isAgg]
          have hz1':z.cells=[z]:=by cases z<;>simp_all [D.cells,D.isAgg]
          rw[hx1] at c2 hs0
          rw[hz1'] at hcn
          simp only[length_singleton] at c2 hs0 hcn
          obtain rfl:k=0:=by omega
          refine⟨a.eval y,hz4,?_,hze⟩
          have q1:us[i].cells.toList.length=1:=by simpa using hs0
          have q2:(a.eval y).cells.toList.length=1:=by rw[Array.length_toList];omega
          obtain⟨p1,hp1⟩:=List.length_eq_one_iff.1 q1
          obtain⟨p2,hp2⟩:=List.length_eq_one_iff.1 q2
          rw[hp1,hp2];rfl
        obtain⟨u',k1,k2,k3⟩:=key
        have hus:u'.cells.size=sz:=by rw[<- Array.length_toList,k2,Zb7,Array.length_toList];exact hssz
        have hEn:=hE'.set (i:=i) k1 hus k3
        rw[Zah]
        refine Els.blk hEn hblk.1 g2 fun j v hj=>?_
        have hsr:ZS (cellsOf us) (i*sz) (ZS us[i].cells.toList k (a.eval y).cells.toList)=ZS (cellsOf us) (i*sz+k) (a.eval y).cells.toList:=by
         refine ZtU (fun j hj=>?_) ?_
         ·have hj':j<us[i].cells.size:=by simpa using hj
          rw[Zef us hE.size i j us[i] _ hu0 (Array.getElem?_eq_getElem hj'),Array.getElem?_toList,Array.getElem?_eq_getElem hj']
         ·simp only[Array.length_toList];omega
        rw[<- Zp5 hE.size hus hiu,k2,hsr] at hj
        rw[<- Array.getElem?_toList,g1]
        exact ZsR (fun j v hv=>by rw[Array.getElem?_toList];exact e3 j v hv) j v hj
 ·cases h
end
mutual
theorem ZvS:∀(x y:D),eqD x y=some true->x=y
 | .bool a,y,h=>by
  cases y<;>simp only[eqD] at h<;>try (cases h;done)
  simp only[sJ,beq_iff_eq] at h;rw[h]
 | .int k a,y,h=>by
  cases y<;>simp only[eqD] at h<;>try (cases h;done)
  rename_i k' b
  cases hk:k==k' with
  | false=>rw[hk] at h;cases h
  | true=>
   rw[hk] at h
   simp only[cT,sJ,beq_iff_eq] at h
   rw[h,show k=k' by simpa using hk]
 | .agg xs,y,h=>by
  cases y<;>simp only[eqD] at h<;>try (cases h;done)
  rw[Zs4 xs _ h]
 | .str _,y,h=>by cases y<;>cases h
 | .list _ _,y,h=>by cases y<;>cases h
 | .tup _,y,h=>by cases y<;>cases h
 | .fn _ _,y,h=>by cases y<;>cases h
 | .nilfn,y,h=>by cases y<;>cases h
 | .rptr _,y,h=>by cases y<;>cases h
 | .nilp,y,h=>by cases y<;>cases h
 | .iface _ _,y,h=>by cases y<;>cases h
 | .nilI,y,h=>by cases y<;>cases h
theorem Zs4:∀(xs ys:List D),Zls xs ys=some true->xs=ys
 | [],ys,h=>by cases ys with | nil=>rfl | cons=>cases h
 | x :: xs,ys,h=>by
  cases ys with
  | nil=>cases h
  | cons y ys=>
   simp only[Zls] at h
   cases h1:eqD x y with
   | none=>rw[h1] at h;cases h
   | some a=>
    cases h2:Zls xs ys with
    | none=>rw[h1,h2] at h;cases h
    | some b=>
     rw[h1,h2] at h
     simp only[sJ,aT] at h
     obtain⟨rfl,rfl⟩:=h
     rw[ZvS x y h1,Zs4 xs ys h2]
end
theorem Zhk:∀(ks:List Bool) (cs:List D),Zcd ks cs=true->cs.all ZhB=true
 | [],[],_=>rfl
 | [],_ :: _,h=>by cases h
 | true :: ks,c :: cs,h=>by
  cases c<;>try (cases h;done)
  simpa [ZhB] using Zhk ks cs h
 | false :: ks,c :: cs,h=>by
  cases c<;>try (cases h;done)
  simpa [ZhB] using Zhk ks cs h
 | true :: _,[],h=>by cases h
 | false :: _,[],h=>by cases h
theorem Zha {ks:List Bool}{k:D} (h:Zbo ks k=true):Zne k=true:=by
 unfold Zbo at h
 split at h
 ·split at h
  ·cases h
  ·exact Zhk _ _ h
 ·rename_i hx
  split at h
  ·have:=Zhk _ _ h
   cases k<;>simp_all [Zne]
  ·cases h
section
variable {A1 A0 AL:Nat->Prop} {w:World}
theorem Zj2 {y:D}{u:Value} (hf:ZhB y=true):Zaf A1 A0 AL w y u↔u=Zew y:=by
 cases y<;>first | (cases hf;done) | exact Iff.rfl
theorem Zh1:∀(cs:List D) (us:List Value),cs.all ZhB=true->(Z6 A1 A0 AL w cs us↔us=cs.map Zew)
 | [],us,_=>Iff.rfl
 | c :: cs,us,hf=>by
  simp only[List.all_cons,aT] at hf
  simp only[Z6,map_cons]
  constructor
  ·rintro ⟨u,us',rfl,h1,h2⟩
   rw[(Zj2 hf.1).1 h1,(Zh1 cs us' hf.2).1 h2]
  ·rintro rfl
   exact⟨_,_,rfl,(Zj2 hf.1).2 rfl,(Zh1 cs _ hf.2).2 rfl⟩
theorem ZxC {k:D}{u:Value} (hf:Zne k=true):Zaf A1 A0 AL w k u↔u=Zjx k:=by
 cases k with
 | agg cs=>
  constructor
  ·rintro ⟨us,rfl,h⟩
   rw[(Zh1 cs us hf).1 h];rfl
  ·rintro rfl
   exact⟨_,rfl,(Zh1 cs _ hf).2 rfl⟩
 | bool b=>exact Zj2 (y:=.bool b) rfl
 | int q n=>exact Zj2 (y:=.int q n) rfl
 | _=>cases hf
end
theorem Zjt {y:D} (hf:ZhB y=true) (n:Nat):Instr.sameBits n (Zew y) (Zew y)=true:=by
 cases y<;>first | (cases hf;done) | skip
 all_goals (unfold Instr.sameBits Zew;simp)
theorem Zud {k:D} (hf:Zne k=true):Instr.sameBits 10000 (Zjx k) (Zjx k)=true:=by
 cases k with
 | agg cs=>
  show Instr.sameBits (9999+1) (.agg (cs.map Zew).toArray) (.agg (cs.map Zew).toArray)=true
  unfold Instr.sameBits
  simp only[beq_self_eq_true,Bool.true_and,List.all_eq_true]
  rintro ⟨x,y⟩ hxy
  have hf':cs.all ZhB=true:=hf
  rw[List.all_eq_true] at hf'
  have zz:∀(l:List Value),(x,y)∈l.zip l->x=y/\x∈l:=fun l=>by
   induction l with
   | nil=>intro h;cases h
   | cons a l ih=>
    intro h
    rw[List.zip_cons_cons] at h
    rcases List.mem_cons.1 h with h | h
    ·cases h;exact⟨rfl,mem_cons_self ..⟩
    ·exact⟨(ih h).1,mem_cons_of_mem _ (ih h).2⟩
  obtain⟨rfl,hx⟩:=zz _ (by simpa using hxy)
  obtain⟨c,hc,rfl⟩:=List.mem_map.1 hx
  exact Zjt (hf' c hc) _
 | bool b=>exact Zjt (y:=.bool b) rfl _
 | int k n=>exact Zjt (y:=.int k n) rfl _
 | _=>cases hf
section
variable {P:Program} {w:World}
theorem ZyN {k:D} (hf:Zne k=true):(Instr.keyThatStays (Zjx k) (Zjx k)).run P w = .ok (Zjx k) w:=by
 unfold Instr.keyThatStays
 rw[if_pos (Zud hf)];rfl
theorem Zn1 {t:TypeId}{b em:Bool} (ht:Ze9 P t=some b) (u:Value) (n:Nat):(Instr.checkKey em (n+1) t u).run P w = .ok () w:=by
 unfold Ze9 at ht
 split at ht
 ·rename_i hu
  rw[Instr.checkKey]
  simp[run_underlying hu]
 ·rename_i k0 hu
  rw[Instr.checkKey]
  simp[run_underlying hu]
 ·cases ht
theorem ZoR (em:Bool) (n:Nat) (us:List Value):∀(fs:List Field) (i:Nat) (ks:List Bool) (xs:List D),ZbC P i fs=some ks->Zcd ks xs=true->(∀(j:Nat) x,xs[j]? = some x->∃u,us[i+j]? = some u) ->
  (forIn (m:=Sem) fs PUnit.unit (fun f _=>do
   if f.name ≠ "_" then Instr.checkKey em (n + 1) f.type (<- part f.type us.toArray f.offset)
   pure (ForInStep.yield PUnit.unit))).run P w = .ok PUnit.unit w
 | [],i,ks,xs,_,_,_=>by simp
 | f :: fs,i,ks,xs,hf,hk,h1=>by
  simp only[ZbC] at hf
  cases hc : ((f.name != "_") && Nat.beq f.offset i) with
  | false=>rw[hc] at hf;cases hf
  | true=>
   rw[hc] at hf
   simp only[cT] at hf
   simp only[aT] at hc
   cases hkt:Ze9 P f.type with
   | none=>rw[hkt] at hf;cases hf
   | some b=>
    rw[hkt] at hf
    cases hff:ZbC P (i+1) fs with
    | none=>rw[hff] at hf;cases hf
    | some ks'=>
     rw[hff] at hf
     simp only[sJ] at hf
     subst hf
     cases xs with
     | nil=>cases b<;>simp[Zcd] at hk
     | cons x xs=>
      obtain⟨k1,k2⟩:=Zlz hk
      obtain⟨u,f1⟩:=h1 0 x rfl
      have hn : f.name ≠ "_" := by simpa using hc.1
      have ho:=nQ hc.2
      simp only[add_zero] at f1
      have p1:(part f.type us.toArray f.offset).run P w = .ok u w:=by simp[part,Ze0 (ZiE hkt),ho,f1]
      have p2:=Zn1 (P:=P) (w:=w) (em:=em) hkt u n
      have hrest:=ZoR em n us fs (i+1) ks' xs hff k2 (fun j x hj=>by have:=h1 (j+1) x (by simpa using hj);rwa [show i+(j+1)=i+1+j from by omega] at this)
      simp only[List.forIn_cons,Sem.run_bind,hn,ne_eq,not_false_eq_true,if_true,Result.andThen_ok,p1,p2,Sem.run_pure]
      exact hrest
theorem Zmo {t:TypeId}{ks:List Bool}{k:D} (em:Bool) (ht:ZnN P t=some ks) (hk:Zbo ks k=true):(Instr.checkKey em 10000 t (Zjx k)).run P w = .ok () w:=by
 unfold ZnN at ht
 split at ht
 ·rename_i hu
  exact Zn1 (b:=true) (by unfold Ze9;rw[hu]) _ 9999
 ·rename_i q hu
  exact Zn1 (b:=false) (by unfold Ze9;rw[hu]) _ 9999
 ·rename_i fs hu
  cases hg:(!(Nat.beq fs.toList.length 1)&&(!(P.stoodInHeld t) && !(P.eqGuardType P.depth t))) with
  | false=>rw[hg] at ht;cases ht
  | true=>
   rw[hg] at ht
   simp only[cT] at ht
   have hl:=Zf4 _ _ _ ht
   have hk':∃cs,k = .agg cs/\Zcd ks cs=true:=by
    unfold Zbo at hk
    split at hk
    ·split at hk
     ·cases hk
     ·exact⟨_,rfl,hk⟩
    ·split at hk
     ·rw[<- hl] at hg;cases hg
     ·cases hk
   obtain⟨cs,rfl,hkb⟩:=hk'
   show(Instr.checkKey em (9998+1+1) t (.agg (cs.map Zew).toArray)).run P w = .ok () w
   rw[Instr.checkKey]
   simp only[Sem.run_bind,run_underlying hu,Result.andThen_ok]
   rw[<- Array.forIn_toList]
   have:=ZoR (P:=P) (w:=w) em 9998 (cs.map Zew) fs.toList 0 ks cs ht hkb (fun j x hj=>⟨Zew x,by simp[hj]⟩)
   refine(congrArg (fun r=>Result.andThen r _) this).trans ?_
   rfl
 ·cases ht
def kv (e:MapEntry):Value×Value:=(e.key,e.val)
def kvU (q:D×D):Value×Value:=(Zjx q.1,Zew q.2)
theorem ZsB {q kd:IntKind}{n:Int}:∀(es:List (D×D)) (mes:List MapEntry) (i:Nat) (r:Option D),mes.map kv=es.map kvU->Zli es (.int kd n)=some r ->
  (r=none/\Instr.findNow (.int q) (.int kd n) mes i=some none/\∀v,Zko es (.int kd n) v=some (es++[(.int kd n,v)])) ∨
  ∃j y,r=some y/\es[j]? = some (.int kd n,y)/\Instr.findNow (.int q) (.int kd n) mes i=some (some (i+j,Zew y))/\∀v,Zko es (.int kd n) v=some (es.set j (.int kd n,v))
 | [],mes,i,r,hm,h=>by
  cases mes with
  | cons=>simp at hm
  | nil=>
   simp only[Zli,sJ] at h
   subst h
   exact .inl ⟨rfl,rfl,fun v=>rfl⟩
 | (a,x) :: es,mes,i,r,hm,h=>by
  cases mes with
  | nil=>simp at hm
  | cons e mes=>
   simp only[map_cons,List.cons.injEq] at hm
   obtain⟨hm1,hm2⟩:=hm
   simp only[kv,kvU,pJ] at hm1
   simp only[Zli] at h
   cases a<;>try (cases h;done)
   rename_i kd' m
   cases hk:kd==kd' with
   | false=>simp only[eqD,hk,cF] at h;cases h
   | true=>
    obtain rfl:kd=kd':=by simpa using hk
    simp only[eqD,hk,cT] at h
    have hkey:e.key = .int kd m:=hm1.1
    cases hb:n==m with
    | true=>
     rw[hb] at h
     simp only[sJ] at h
     subst h
     obtain rfl:n=m:=by simpa using hb
     refine .inr ⟨0,x,rfl,rfl,?_,fun v=>?_⟩
     ·simp[Instr.findNow,Instr.sameNow,hkey,hm1.2]
     ·simp[Zko,eqD,hk]
    | false=>
     rw[hb] at h
     simp only at h
     rcases ZsB (q:=q) es mes (i+1) r hm2 h with⟨rfl,h1,h2⟩ | ⟨j,y,rfl,h1,h2,h3⟩
     ·refine .inl ⟨rfl,?_,fun v=>?_⟩
      ·simp[Instr.findNow,Instr.sameNow,hkey,hb,h1]
      ·simp only[Zko,eqD,hk,cT,hb]
       rw[h2];rfl
     ·refine .inr ⟨j+1,y,rfl,by simpa using h1,?_,fun v=>?_⟩
      ·simp only[Instr.findNow,Instr.sameNow,hkey,if_true,hb,h2]
       rw[show i+(j+1)=i+1+j by omega]
      ·simp only[Zko,eqD,hk,cT,hb]
       rw[h3];rfl
theorem ZFN {R:RP}{t:TypeId}{ks:List Bool} (ht:ZnN P t=some ks) {cs cs':List D} (hk:Zbo ks (.agg cs)=true) {r:Bool} (h:eqD (.agg cs) (.agg cs')=some r) (hf:cs'.all ZhB=true):(Op.equal t (Zjx (.agg cs)) (Zjx (.agg cs'))).run P w = .ok r w:=by
 have hk':(∀b,ks≠[b])/\Zcd ks cs=true:=by
  unfold Zbo at hk
  dsimp only at hk
  split at hk
  ·cases hk
  ·rename_i hn;exact⟨fun b hb=>hn b hb,hk⟩
 obtain⟨hn1,hk1⟩:=hk'
 have hf1:=Zhk _ _ hk1
 simp only[eqD] at h
 unfold ZnN at ht
 split at ht
 ·cases ht;exact absurd rfl (hn1 _)
 ·cases ht;exact absurd rfl (hn1 _)
 ·rename_i fs hu
  cases hg':(!(Nat.beq fs.toList.length 1)&&(!(P.stoodInHeld t) && !(P.eqGuardType P.depth t))) with
  | false=>rw[hg'] at ht;cases ht
  | true=>
   rw[hg'] at ht
   simp only[cT] at ht
   simp only[aT,Bool.not_eq_true'] at hg'
   obtain⟨_,hg⟩:=hg'
   have hfs:P.fieldsOf t=fs:=by unfold Program.fieldsOf;rw[hu]
   have e2:Z6 R.A1 R.A0 R.AL w cs (cs.map Zew):=(Zh1 cs _ hf1).2 rfl
   have e4:Z6 R.A1 R.A0 R.AL w cs' (cs'.map Zew):=(Zh1 cs' _ hf).2 rfl
   show(Op.equalIn 10000 t (.agg (cs.map Zew).toArray) (.agg (cs'.map Zew).toArray)).run P w = .ok r w
   rw[run_equalIn_struct w 9999 t _ _ (by rw[hfs];exact hu) hg.1,hfs]
   exact Zo8 (R:=R) 9998 _ _ fs.toList 0 ks cs cs' r ht hk1 h (fun j x hj=>by simpa using Zfd cs _ j x e2 hj) (fun j x hj=>by simpa using Zfd cs' _ j x e4 hj)
 ·cases ht
theorem Zsg (R:RP) {t:TypeId}{ks:List Bool} (ht:ZnN P t=some ks) {cs:List D} (hk:Zbo ks (.agg cs)=true):∀(es:List (D×D)) (mes:List MapEntry) (i:Nat) (r:Option D),mes.map kv=es.map kvU->(∀q∈es,Zne q.1=true)->Zli es (.agg cs)=some r ->
  (r=none/\(Instr.findAsking t (Zjx (.agg cs)) mes i).run P w = .ok none w/\∀v,Zko es (.agg cs) v=some (es++[(.agg cs,v)])) ∨
  ∃j y,r=some y/\es[j]? = some (.agg cs,y)/\(Instr.findAsking t (Zjx (.agg cs)) mes i).run P w = .ok (some (i+j,Zew y)) w/\∀v,Zko es (.agg cs) v=some (es.set j (.agg cs,v))
 | [],mes,i,r,hm,_,h=>by
  cases mes with
  | cons=>simp at hm
  | nil=>
   simp only[Zli,sJ] at h
   subst h
   exact .inl ⟨rfl,by simp[Instr.findAsking],fun v=>rfl⟩
 | (a,x) :: es,mes,i,r,hm,hfl,h=>by
  cases mes with
  | nil=>simp at hm
  | cons e mes=>
   simp only[map_cons,List.cons.injEq] at hm
   obtain⟨hm1,hm2⟩:=hm
   simp only[kv,kvU,pJ] at hm1
   simp only[Zli] at h
   cases he:eqD (.agg cs) a with
   | none=>rw[he] at h;cases h
   | some b=>
    rw[he] at h
    have ha:∃cs',a = .agg cs':=by cases a<;>first | (cases he;done) | exact⟨_,rfl⟩
    obtain⟨cs',rfl⟩:=ha
    have heq:=ZFN (P:=P) (w:=w) (R:=R) ht hk he (hfl _ (mem_cons_self ..))
    rw[<- hm1.1] at heq
    cases b with
    | true=>
     simp only[sJ] at h
     subst h
     have:=ZvS _ _ he
     refine .inr ⟨0,x,rfl,by rw[<- this];rfl,?_,fun v=>?_⟩
     ·simp[Instr.findAsking,heq,hm1.2]
     ·simp only[Zko,he];rw[<- this];rfl
    | false=>
     simp only at h
     rcases Zsg R ht hk es mes (i+1) r hm2 (fun q hq=>hfl q (mem_cons_of_mem _ hq)) h with⟨rfl,h1,h2⟩ | ⟨j,y,rfl,h1,h2,h3⟩
     ·refine .inl ⟨rfl,?_,fun v=>?_⟩
      ·simp[Instr.findAsking,heq,h1]
      ·simp only[Zko,he]
       rw[h2];rfl
     ·refine .inr ⟨j+1,y,rfl,by simpa using h1,?_,fun v=>?_⟩
      ·simp only[Instr.findAsking,Sem.run_bind,heq,Result.andThen_ok,h2,Bool.false_eq_true,if_false]
       rw[show i+(j+1)=i+1+j by omega]
      ·simp only[Zko,he]
       rw[h3];rfl
theorem Zyb (R:RP) {t:TypeId}{ks:List Bool} (ht:ZnN P t=some ks) (hne:ks≠[true]) {k:D} (hk:Zbo ks k=true) {es:List (D×D)}{mes:List MapEntry}{r:Option D} (hm:mes.map kv=es.map kvU) (hfl:∀q∈es,Zne q.1=true) (h:Zli es k=some r) :
  (r=none/\(Instr.findKey t (Zjx k) mes).run P w = .ok none w/\∀v,Zko es k v=some (es++[(k,v)])) ∨
  ∃j y,r=some y/\es[j]? = some (k,y)/\(Instr.findKey t (Zjx k) mes).run P w = .ok (some (j,Zew y)) w/\∀v,Zko es k v=some (es.set j (k,v)):=by
 cases hag:k.isAgg with
 | true=>
  cases k<;>try (cases hag;done)
  rename_i cs
  have hu:∃fs,P.underlying t=some (.struct fs):=by
   unfold Zbo at hk
   dsimp only at hk
   unfold ZnN at ht
   split at ht
   ·cases ht;cases hk
   ·cases ht;cases hk
   ·exact⟨_,by assumption⟩
   ·cases ht
  obtain⟨fs,hu⟩:=hu
  have key:(Instr.findKey t (Zjx (.agg cs)) mes).run P w=(Instr.findAsking t (Zjx (.agg cs)) mes 0).run P w:=by
   unfold Instr.findKey
   simp only[Sem.run_bind,run_underlying hu,Result.andThen_ok]
   cases mes with
   | nil=>simp[Instr.findNow,Instr.findAsking]
   | cons e mes=>simp[Instr.findNow,Instr.sameNow]
  rw[key]
  rcases Zsg (P:=P) (w:=w) R ht hk es mes 0 r hm hfl h with h1 | ⟨j,y,h1,h2,h3,h4⟩
  ·exact .inl h1
  ·exact .inr ⟨j,y,h1,h2,by simpa using h3,h4⟩
 | false=>
  have hk1:∃b,ks=[b]/\Zcd [b] [k]=true:=by
   unfold Zbo at hk
   split at hk
   ·cases hag
   ·split at hk
    ·exact⟨_,rfl,hk⟩
    ·cases hk
  obtain⟨b,rfl,hkb⟩:=hk1
  cases b with
  | true=>exact absurd rfl hne
  | false=>
   cases k<;>try (cases hkb;done)
   rename_i kd n
   have hu:∃q,P.underlying t=some (.int q):=by
    unfold ZnN at ht
    split at ht
    ·cases ht
    ·exact⟨_,by assumption⟩
    ·rename_i fs hu
     cases hg:(!(Nat.beq fs.toList.length 1)&&(!(P.stoodInHeld t) && !(P.eqGuardType P.depth t))) with
     | false=>rw[hg] at ht;cases ht
     | true=>
      rw[hg] at ht
      simp only[cT] at ht
      rw[<- Zf4 _ _ _ ht] at hg
      cases hg
    ·cases ht
   obtain⟨q,hu⟩:=hu
   have key:∀x,Instr.findNow (.int q) (.int kd n) mes 0=some x->(Instr.findKey t (Zjx (.int kd n)) mes).run P w = .ok x w:=fun x hx=>by
    unfold Instr.findKey
    simp only[Sem.run_bind,run_underlying hu,Result.andThen_ok]
    show(match Instr.findNow (.int q) (.int kd n) mes 0 with | some r=>(pure r:Sem _) | none=>Instr.findAsking t (.int kd n) mes).run P w = .ok x w
    rw[hx];rfl
   rcases ZsB (q:=q) es mes 0 r hm h with⟨h1,h2,h3⟩ | ⟨j,y,h1,h2,h3,h4⟩
   ·exact .inl ⟨h1,key _ h2,h3⟩
   ·exact .inr ⟨j,y,h1,h2,by have:=key _ h3;simpa using this,h4⟩
theorem Zs0:∀(es:List (D×D)) (k v:D) (l:List (D×D)),Zko es k v=some l->∃r,Zli es k=some r
 | [],k,v,l,_=>⟨none,rfl⟩
 | (a,x) :: es,k,v,l,h=>by
  simp only[Zko] at h
  simp only[Zli]
  cases he:eqD k a with
  | none=>rw[he] at h;cases h
  | some b=>
   rw[he] at h
   cases b with
   | true=>exact⟨_,rfl⟩
   | false=>
    simp only at h
    cases hs:Zko es k v with
    | none=>rw[hs] at h;cases h
    | some l'=>exact Zs0 es k v l' hs
end
def Ztw (P:Program) (t:TypeId) (ks:List Bool) (z:Option D):Bool:=
 match P.underlying t with
 | some (.map k el)=>(match ZnN P k with | some l=>l==ks | none=>false)&&(!(ks==[true])&&(match z with | none=>true | some z=>(match ZkC P el with | some zv=>cv (.d z) zv | none=>false)))
 | _=>false
theorem Zsf {P:Program}{t:TypeId}{ks:List Bool}{z:Option D} (h:Ztw P t ks z=true):∃k el,P.underlying t=some (.map k el)/\ZnN P k=some ks/\ks≠[true]/\∀z',z=some z'->∃zv,ZkC P el=some zv/\cv (.d z') zv=true:=by
 unfold Ztw at h
 split at h
 ·rename_i k el hu
  simp only[aT,Bool.not_eq_true',beq_eq_false_iff_ne,ne_eq] at h
  obtain⟨h1,h2,h3⟩:=h
  refine⟨k,el,hu,?_,h2,?_⟩
  ·split at h1
   ·rename_i l hl;rw[hl];rw[show l=ks by simpa using h1]
   ·cases h1
  ·rintro z' rfl
   dsimp only at h3
   split at h3
   ·rename_i zv hz;exact⟨zv,hz,h3⟩
   ·cases h3
 ·cases h
section
variable {P:Program} {G:Z1} {R:RP} {w:World} {e:Env} {a:Act} {Hm H':Zi} {nid:Nat} {o:Oper}
theorem ZDq (pre:Pre G R w e a Hm) {t:TypeId}{r:Option Operand} (hop:o.op = .makeMap t r) (hr:r=none) (hn:R.M nid=none) (hp:ZK R.H [] nid [.mp []] H'):Zbl P o a w (Post R w nid 1 H' (.mp nid)):=by
 subst hr
 refine Zaq (s:=Instr.makeMap t none) (u:=.map (some w.heap.size)) (w':=w.alloc (.map #[] 0)) (by unfold execOp;rw[hop];rfl) (by simp[Instr.makeMap]) ?_
 refine Post.new (m:=some w.heap.size) _ pre.ok hp hn (.inr rfl) fun R' hx hM hH=>⟨⟨_,rfl,⟨#[],0,Zkl w _,rfl⟩,by simp⟩,fun _=>⟨⟨_,rfl⟩,_,hM,fun es _=>⟨_,rfl,rfl⟩⟩⟩
theorem ZEi {R:RP}{w:World}{v:V}{u:Value}{b:Nat}{xs:List Int} (ok:R.OK w) (hv:Z5 R w v u) (he:v = .ch b) (hb:nth R.H b=some (.ch xs)) :
  ∃c cap s r,u = .chan (some c)/\R.M b=some (some c)/\w.heap[c]? = some (.chan cap (xs.map fun n=>Value.int .i64 n).toArray false s r false):=by
 subst he
 obtain⟨_,m,h1,h2⟩:=hv
 obtain⟨c,rfl,rfl⟩:=h2 xs hb
 rw[ZI] at hb
 obtain⟨c',e1,cap,s,r,e2⟩:=ok.blk b _ _ hb h1
 cases e1
 exact⟨c,cap,s,r,rfl,h1,e2⟩
theorem ZtJ {H:Zi}{v:V}{b:Nat}{xs:List Int} (h:ZsH H v=some (b,xs)):v = .ch b/\nth H b=some (.ch xs):=by
 unfold ZsH at h
 split at h
 ·split at h
  ·rename_i ys hb
   cases h
   exact⟨rfl,hb⟩
  ·cases h
 ·cases h
theorem ZDy (pre:Pre G R w e a Hm) {t:TypeId}{x:Operand}{y:Opd}{r:D} (hop:o.op = .call { callee:=.builtin .len,args:=#[x],argTypes:=#[t] }) (hx:Zz G x y=true) (ht:∃dir el,P.underlying t=some (.chan dir el))
  (h:ZqY Hm (y.val e)=some r) (hp:ZK R.H [] nid [] H'):Zbl P o a w (Post R w nid 0 H' (.d r)):=by
 have hv:=pre.opd hx
 obtain⟨dir,el,hu⟩:=ht
 unfold ZqY at h
 cases hq:ZsH Hm (y.val e) with
 | none=>rw[hq] at h;cases h
 | some q=>
  obtain⟨b,xs⟩:=q
  rw[hq] at h
  simp only[sJ] at h
  subst h
  obtain⟨he,hb⟩:=ZtJ hq
  obtain⟨c,cap,s,r,h1,h2,h3⟩:=ZEi pre.ok hv he (pre.le b _ hb (by simp))
  refine Zaq (s:=Builtin.len_ #[t] o.type #[a.eval x]) (u:=.int .i64 xs.length) (by rw[ZeY hop,BigFrame.builtin_len];simp) ?_ (Post.stay pre.ok hp rfl)
  rw[h1]
  have hg:(getObj c).run P w = .ok (.chan cap (xs.map fun n=>Value.int .i64 n).toArray false s r false) w:=by simp[getObj,Sem.run,h3]
  simp[Builtin.len_,run_underlying hu,hg,goInt]
theorem ZCn (pre:Pre G R w e a Hm) {x:Operand}{x':Opd}{b:Nat}{es:List (D×D)} (hx:Zz G x x'=true) (he:x'.val e = .mp b) (hb:nth Hm b=some (.mp es)) :
  ∃c,a.eval x = .map (some c)/\R.H[b]? = some (.mp es)/\R.M b=some (some c)/\∃mes clock,w.heap[c]? = some (.map mes clock)/\mes.toList.map kv=es.map kvU/\∀q∈es,Zne q.1=true/\ZhB q.2=true:=by
 have hv:=pre.opd hx
 rw[he] at hv
 have hb':=pre.le b _ hb (by simp)
 obtain⟨_,m,h1,h2⟩:=hv
 obtain⟨c,rfl,hpt⟩:=h2 es hb'
 rw[ZI] at hb'
 obtain⟨c',e1,⟨mes,clock,e2,e3⟩,e4⟩:=pre.ok.blk b _ _ hb' h1
 cases e1
 exact⟨c,hpt,hb',h1,mes,clock,e2,e3,e4⟩
theorem ZAH (pre:Pre G R w e a Hm) {t:TypeId}{ks:List Bool}{z r:D}{m k:Operand}{m' k':Opd} (hop:o.op = .lookup t m k false) (hm:Zz G m m'=true) (hk:Zz G k k'=true) (ht:Ztw P t ks (some z)=true)
  (h:Zmu Hm ks z (m'.val e) (k'.val e)=some r) (hp:ZK R.H [] nid [] H'):Zbl P o a w (Post R w nid 0 H' (.d r)):=by
 obtain⟨kt,el,hu,hkt,hne,hz⟩:=Zsf ht
 obtain⟨zv,hz1,hz2⟩:=hz z rfl
 unfold Zmu at h
 split at h
 ·rename_i b k0 he hke
  split at h
  ·rename_i es hb
   split at h
   ·rename_i hkd
    obtain⟨c,h1,h2,h3,mes,clock,h4,h5,h6⟩:=ZCn pre hm he hb
    have hkv:=pre.opd hk
    rw[hke] at hkv
    have hku:=(ZxC (Zha hkd)).1 hkv
    unfold ZDT at h
    have hzv:(zeroValue el).run P w = .ok zv w:=by
     unfold ZkC at hz1
     cases hi:P.info? el with
     | none=>rw[hi] at hz1;cases hz1
     | some i=>rw[hi] at hz1;simp[zeroValue,typeInfo,hi,hz1]
    cases hfm:Zli es k0 with
    | none=>rw[hfm] at h;cases h
    | some q=>
     rw[hfm] at h
     rcases Zyb (P:=P) (w:=w) R hkt hne hkd h5 (fun q hq=>(h6 q hq).1) hfm with⟨rfl,g1,_⟩ | ⟨j,y,rfl,g1,g2,_⟩
     ·simp only[sJ] at h
      subst h
      refine Zaq (s:=Instr.lookup t (a.eval m) (a.eval k) false) (u:=zv) (w':=w) (by unfold execOp;rw[hop]) ?_ (Post.stay pre.ok hp (Zsb _ _ hz2))
      rw[h1,hku]
      simp[Instr.lookup,run_underlying hu,MapKept.run_getObj_map h4,Zmo _ hkt hkd,g1,hzv]
     ·simp only[sJ] at h
      subst h
      refine Zaq (s:=Instr.lookup t (a.eval m) (a.eval k) false) (u:=Zew y) (w':=w) (by unfold execOp;rw[hop]) ?_ (Post.stay pre.ok hp ((Zj2 (h6 _ (mG g1)).2).2 rfl))
      rw[h1,hku]
      simp[Instr.lookup,run_underlying hu,MapKept.run_getObj_map h4,Zmo _ hkt hkd,g2]
   ·cases h
  ·cases h
 ·cases h
theorem ZBa (pre:Pre G R w e a Hm) {t:TypeId}{ks:List Bool}{m k x:Operand}{m' k' x':Opd}{up:List (Nat×Blk)}{nw:List Blk}{r:V} (hop:o.op = .mapUpdate t m k x) (hm:Zz G m m'=true) (hk:Zz G k k'=true) (hx:Zz G x x'=true) (ht:Ztw P t ks none=true)
  (h:Zob Hm ks (m'.val e) (k'.val e) (x'.val e)=some (r,up,nw)) (hp:ZK R.H up nid nw H'):Zbl P o a w (Post R w nid nw.length H' r):=by
 obtain⟨kt,el,hu,hkt,hne,_⟩:=Zsf ht
 unfold Zob at h
 split at h
 ·rename_i b k0 y he hke hxe
  split at h
  ·rename_i es hb
   split at h
   ·rename_i hkd
    simp only[aT] at hkd
    obtain⟨hkd,hy⟩:=hkd
    split at h
    ·rename_i l hs
     simp only[sJ,pJ] at h
     obtain⟨rfl,rfl,rfl⟩:=h
     obtain⟨c,h1,h2,h3,mes,clock,h4,h5,h6⟩:=ZCn pre hm he hb
     have hkv:=pre.opd hk
     rw[hke] at hkv
     have hku:=(ZxC (Zha hkd)).1 hkv
     have hxv:=pre.opd hx
     rw[hxe] at hxv
     have hxu:=(Zj2 hy).1 hxv
     obtain⟨q,hq⟩:=Zs0 _ _ _ _ hs
     have hcs:c<w.heap.size:=(Array.getElem?_eq_some_iff.1 h4).1
     have fin:∀mes' clock',(Instr.mapUpdate t (a.eval m) (a.eval k) (a.eval x)).run P w = .ok () { w with heap:=w.heap.setIfInBounds c (.map mes' clock') }->mes'.toList.map kv=l.map kvU->(∀q∈l,Zne q.1=true/\ZhB q.2=true) ->
       Zbl P o a w (Post R w nid 0 H' .bad):=by
      intro mes' clock' hrun g1 g2
      refine ZwT (s:=Instr.mapUpdate t (a.eval m) (a.eval k) (a.eval x)) (by unfold execOp;rw[hop]) hrun ?_
      refine Post.writeM (ks:=[]) (old:=.mp es) (blk:=.mp l) pre.ok h2 h3 (by simp[Blk.like]) h4 (fun c' hc'=>?_) ?_ rfl rfl rfl (by simp) hp (fun R' hx hL hlv hb0=>?_) (fun R' hx hM hh=>trivial)
      ·show(w.heap.setIfInBounds c _)[c']? = w.heap[c']?
       rw[Array.getElem?_setIfInBounds,if_neg (fun h=>hc' h.symm)]
      ·show(w.heap.setIfInBounds c _).size=w.heap.size
       simp
      ·refine⟨c,rfl,⟨mes',clock',?_,g1⟩,g2⟩
       show(w.heap.setIfInBounds c _)[c]? = _
       rw[Array.getElem?_setIfInBounds,if_pos rfl,if_pos hcs]
     rcases Zyb (P:=P) (w:=w) R hkt hne hkd h5 (fun q hq=>(h6 q hq).1) hq with⟨rfl,g1,g2⟩ | ⟨j,y0,rfl,g1,g2,g3⟩
     ·rw[g2 y] at hs
      cases hs
      refine fin (mes.push ⟨Zjx k0,Zew y,clock⟩) (clock+1) ?_ ?_ ?_
      ·rw[h1,hku,hxu]
       simp[Instr.mapUpdate,run_underlying hu,MapKept.run_getObj_map h4,Zmo _ hkt hkd,g1,MapKept.run_setObj_map _ h4]
      ·simp only[Array.toList_push,List.map_append,h5,List.map_singleton];rfl
      ·intro q hq
       rcases List.mem_append.1 hq with hq | hq
       ·exact h6 q hq
       ·rw[List.mem_singleton.1 hq];exact⟨Zha hkd,hy⟩
     ·rw[g3 y] at hs
      cases hs
      have hkj:∃e0,mes[j]? = some e0/\e0.key=Zjx k0:=by
       have:(mes.toList.map kv)[j]? = (es.map kvU)[j]?:=by rw[h5]
       rw[List.getElem?_map,List.getElem?_map,g1] at this
       cases he0:mes.toList[j]? with
       | none=>rw[he0] at this;cases this
       | some e0=>
        rw[he0] at this
        simp only[map_some,sJ,kv,kvU,pJ] at this
        exact⟨e0,by simpa using he0,this.1⟩
      obtain⟨e0,k1,k2⟩:=hkj
      refine fin (mes.modify j fun e=>{ e with key:=Zjx k0,val:=Zew y }) clock ?_ ?_ ?_
      ·rw[h1,hku,hxu]
       simp[Instr.mapUpdate,run_underlying hu,MapKept.run_getObj_map h4,Zmo _ hkt hkd,g2,k1,k2,ZyN (Zha hkd),MapKept.run_setObj_map _ h4]
      ·apply List.ext_getElem?
       intro i
       have hi:(mes.toList.map kv)[i]? = (es.map kvU)[i]?:=by rw[h5]
       simp only[List.getElem?_map,Array.getElem?_toList,Array.getElem?_modify,List.getElem?_set] at hi ⊢
       by_cases hji:j=i
       ·subst hji
        rw[if_pos rfl,if_pos rfl,k1,if_pos (gQ g1).1]
        rfl
       ·rw[if_neg hji,if_neg hji];exact hi
      ·intro q hq
       rcases List.mem_or_eq_of_mem_set hq with hq | hq
       ·exact h6 q hq
       ·rw[hq];exact⟨Zha hkd,hy⟩
    ·cases h
   ·cases h
  ·cases h
 ·cases h
end
end
section
section
variable {P:Program} {G:Z1} {R:RP} {w:World} {e:Env} {a:Act} {Hm H':Zi} {nid:Nat} {o:Oper}
theorem Post.number (ok:R.OK w) {sz:Nat}{u:Value} (h0:0<sz) (hn:R.M nid=none) (hp:ZK R.H [] nid [.arr sz []] H') (hu:∃ad,u = .slice ad 0 0):Post R w nid 1 H' (.sl nid sz) u w:=by
 have hH:∀i,i≠nid->H'[i]? = R.H[i]?:=fun i hi=>by
  have:=hp i
  rw[this,if_neg (by simp;omega)];rfl
 have hb:H'[nid]? = some (.arr sz []):=by
  have:=hp nid
  rw[this,if_pos (by simp)];simp
 have lv:∀i,i≠nid->ZN H' i=true->ZN R.H i=true:=fun i hi h=>by
  obtain⟨blk,g1,g2⟩:=Zm.1 h
  exact Zm.2 ⟨blk,by rw[<- hH i hi];exact g1,g2⟩
 have e:Ext R w { R with M:=fun i=>if i=nid then some none else R.M i,H:=H' } w:=by
  refine⟨?_,?_,rfl,rfl,fun _ _ _=>rfl,fun _ cs el fr h=>⟨cs,el,fr,h,rfl⟩,Nat.le_refl _,?_,rfl,rfl,rfl⟩
  ·intro i x hx
   have:i≠nid:=fun e=>by rw[e,hn] at hx;cases hx
   simp[this,hx]
  ·intro i x blk' hx hi hd
   have:i≠nid:=fun e=>by rw[e,hn] at hx;cases hx
   exact⟨blk',by rw[<- hH i this];exact hi,Blk.like_refl hd⟩
  ·rintro c _ ⟨i,g1,g2⟩
   simp only at g1 g2
   by_cases hi:i=nid
   ·rw[if_pos hi] at g2;cases g2
   ·rw[if_neg hi] at g2
    exact⟨i,lv i hi g1,g2⟩
 refine⟨_,e,⟨ok.b01,?_,?_,?_,?_,?_,ok.bl⟩,rfl,?_,fun i h hni=>by
  have:i≠nid:=fun h=>hni (by subst h;simp)
  simp[this,h]⟩
 ·intro i blk' hi hd
  by_cases hin:i=nid
  ·exact⟨none,by simp[hin]⟩
  ·obtain⟨x,hx⟩:=ok.al i blk' (by rw[<- hH i hin];exact hi) hd
   exact⟨x,by simp[hin,hx]⟩
 ·intro i j c hi hj g1 g2
  simp only at g1 g2
  by_cases hin:i=nid
  ·rw[if_pos hin] at g1;cases g1
  ·by_cases hjn:j=nid
   ·rw[if_pos hjn] at g2;cases g2
   ·rw[if_neg hin] at g1;rw[if_neg hjn] at g2
    exact ok.inj i j c (lv i hin hi) (lv j hjn hj) g1 g2
 ·intro i c hc
  simp only at hc
  by_cases hin:i=nid
  ·rw[if_pos hin] at hc;cases hc
  ·rw[if_neg hin] at hc;exact ok.lt i c hc
 ·intro i m blk' hi hm
  simp only at hi hm
  by_cases hin:i=nid
  ·subst hin
   rw[if_pos rfl] at hm;cases hm
   rw[hb] at hi;cases hi
   exact⟨h0,by simp,.inl ⟨rfl,rfl⟩⟩
  ·rw[if_neg hin] at hm
   rw[hH i hin] at hi
   exact e.blkOK ok.b01 (fun _ _=>rfl) (ok.blk i m blk' hi hm)
 ·intro i c hl hc
  simp only at hc
  by_cases hin:i=nid
  ·rw[if_pos hin] at hc;cases hc
  ·rw[if_neg hin] at hc;exact ok.nb i c (lv i hin hl) hc
 ·obtain⟨ad,rfl⟩:=hu
  refine⟨⟨_,_,_,rfl⟩,none,by simp,fun xs hx=>?_⟩
  simp only[ZI,hb] at hx
  cases hx
  exact⟨by simp,_,_,rfl,Nat.le_refl _,.inl ⟨rfl,rfl⟩⟩
theorem Els.sub {sz:Nat}{xs:List D}{us:List Value} (h:Els R w sz xs us) (l n:Nat):Els R w sz ((xs.drop l).take n) ((us.drop l).take n) where
 len:=by simp[h.len]
 den:=fun j x u hx hu=>by
  rw[List.getElem?_take] at hx hu
  split at hx
  ·rename_i hj
   rw[if_pos hj] at hu
   rw[List.getElem?_drop] at hx hu
   exact h.den _ x u hx hu
  ·cases hx
 size:=fun u hu=>h.size u (List.mem_of_mem_drop (List.mem_of_mem_take hu))
 esc:=fun x hx=>h.esc x (List.mem_of_mem_drop (List.mem_of_mem_take hx))
theorem ZtC {sz p:Nat}{xs ys:List D}{us us2:List Value}{cs cs1:Array Value} (hE:Els R w sz xs us) (hE2:Els R w sz ys us2) (hp:p<=xs.length) (hcs:∀(j:Nat) v,(cellsOf us)[j]? = some v->cs[j]? = some v) (hroom:(p+ys.length)*sz<=cs.size)
  (h1:cs1.toList=ZS cs.toList (p*sz) (cellsOf us2)):∃us',Els R w sz (xs.take p++(ys++xs.drop (p+ys.length))) us'/\∀(j:Nat) v,(cellsOf us')[j]? = some v->cs1[j]? = some v:=by
 have hA:=hE.sub 0 p
 have hC:=hE.sub (p+ys.length) xs.length
 have e1:(xs.drop (p+ys.length)).take xs.length=xs.drop (p+ys.length):=List.take_of_length_le (by simp)
 have e2:(us.drop (p+ys.length)).take xs.length=us.drop (p+ys.length):=List.take_of_length_le (by simp[hE.len])
 rw[e1,e2] at hC
 simp only[drop_zero] at hA
 have hEn:=hA.append (hE2.append hC)
 refine⟨_,hEn,fun j v hj=>?_⟩
 obtain⟨i,k,u,g1,g2,rfl⟩:=ZoY _ hEn.size j v hj
 have hk:k<sz:=by rw[<- hEn.size u (mG g1)];exact(Array.getElem?_eq_some_iff.1 g2).1
 have hlp:(us.take p).length=p:=by rw[length_take,hE.len];omega
 have hl2:(cellsOf us2).length=ys.length*sz:=by rw[Zdj us2 hE2.size,hE2.len]
 rw[<- Array.getElem?_toList,h1,Za1,hl2]
 by_cases c1:i<p
 ·rw[List.getElem?_append_left (by omega),List.getElem?_take,if_pos c1] at g1
  have:=ZEO (sz:=sz) c1 hk
  rw[if_neg (by omega),Array.getElem?_toList]
  exact hcs _ v (Zef us hE.size i k u v g1 g2)
 ·rw[List.getElem?_append_right (by omega),hlp] at g1
  have hge:p*sz<=i*sz:=Nat.mul_le_mul_right sz (by omega)
  by_cases c2:i-p<ys.length
  ·rw[List.getElem?_append_left (by rw[hE2.len];exact c2)] at g1
   have h3:=ZEO (sz:=sz) c2 hk
   rw[Nat.sub_mul] at h3
   have h4:(p+ys.length)*sz=p*sz+ys.length*sz:=add_mul _ _ _
   rw[if_pos (by omega),if_pos (by simp only[Array.length_toList];omega)]
   have:=Zef us2 hE2.size (i-p) k u v g1 g2
   rw[Nat.sub_mul] at this
   rw[<- this]
   congr 1;omega
  ·rw[List.getElem?_append_right (by rw[hE2.len];omega),List.getElem?_drop,hE2.len] at g1
   have h3:(p+ys.length)*sz<=i*sz:=Nat.mul_le_mul_right sz (by omega)
   rw[add_mul] at h3
   rw[if_neg (by omega),Array.getElem?_toList]
   have h5:p+ys.length+(i-p-ys.length)=i:=by omega
   rw[h5] at g1
   exact hcs _ v (Zef us hE.size i k u v g1 g2)
theorem Zh7 {i:TypeInfo}{ad:Option Addr}{n len cap:Nat}{news:List Value} (hl:news.length=n*i.size) (h:0<n->∃b off,ad=some ⟨b,off,none⟩/\∀(j:Nat) v,news[j]? = some v->w.cell? ⟨b,off+j,none⟩=some v) :
  (Builtin.firstCells i.size n (.slice ad len cap)).run P w = .ok news.toArray w:=by
 rcases Nat.eq_zero_or_pos n with rfl | hn
 ·have:news=[]:=by simpa using hl
  subst this
  cases ad with
  | none=>simp[Builtin.firstCells]
  | some ad=>simp[Builtin.firstCells,loadCells,loadCellsFrom]
 ·obtain⟨b,off,rfl,h2⟩:=h hn
  exact run_firstCells_some (P:=P) w i.size n ⟨b,off,none⟩ len cap news hl (fun j v hj=>by rw[Addr.add_lit];exact h2 j v hj)
theorem Zou {t t2 ty el el2:TypeId}{i:TypeInfo}{zv:Value} (ht:P.underlying t=some (.slice el)) (ht2:P.underlying t2=some (.slice el2)) (hi:P.info? el=some i) (hz:i.zero=some zv) {ad ad2:Option Addr}{sLen sCap n cap2:Nat}{olds news:List Value}
  (hfo:(Builtin.firstCells i.size sLen (.slice ad sLen sCap)).run P w.drew = .ok olds.toArray w.drew) (hf:(Builtin.firstCells i.size n (.slice ad2 n cap2)).run P w.drew = .ok news.toArray w.drew)
  (hg:sCap<sLen+n) (h63:((sLen+n:Nat):Int)<=9223372036854775807) (hfit:Builtin.nextslicecap (sLen+n) sCap*i.bytes<=281474976710656) :
  (Builtin.append_ #[t,t2] ty #[.slice ad sLen sCap,.slice ad2 n cap2]).run P w =
   .ok (.slice (some ⟨w.heap.size,0,none⟩) (sLen+n) (grownCap w (sLen+n) sCap el))
    (w.drew.alloc (.cells (olds.toArray++news.toArray++Builtin.zeroCells zv.cells (grownCap w (sLen+n) sCap el-(sLen+n))) el)):=by
 have hn:¬(sLen+n<=sCap):=by omega
 have h63':¬(9223372036854775807<((sLen:Int)+(n:Int))):=by omega
 have h48':¬(281474976710656<Builtin.nextslicecap (sLen+n) sCap*i.bytes):=by omega
 simp[Builtin.append_,run_underlying ht,run_underlying ht2,sizeOf,typeInfo,zeroValue,hi,hz,Builtin.lenOf,hn,h63',h48',Question.forced,hf,hfo,newRow,grownCap]
 congr 2
 apply Array.ext'
 simp[List.append_assoc]
theorem ZhS {t t2 ty el el2:TypeId}{i:TypeInfo} (ht:P.underlying t=some (.slice el)) (ht2:P.underlying t2=some (.slice el2)) (hi:P.info? el=some i) {ad ad2:Option Addr}{sLen sCap n cap2:Nat}{news:List Value}{w':World}
  (hf:(Builtin.firstCells i.size n (.slice ad2 n cap2)).run P w = .ok news.toArray w) (hroom:sLen+n<=sCap)
  (hst:∀b,ad=some b->(storeCells (b.add (sLen*i.size)) news).run P w = .ok () w') (h0:ad=none->w'=w) :
  (Builtin.append_ #[t,t2] ty #[.slice ad sLen sCap,.slice ad2 n cap2]).run P w = .ok (.slice ad (sLen+n) sCap) w':=by
 cases ad with
 | none=>
  rw[h0 rfl]
  simp[Builtin.append_,run_underlying ht,run_underlying ht2,sizeOf,typeInfo,hi,Builtin.lenOf,hroom,hf]
 | some b=>
  have:=hst b rfl
  simp[Builtin.append_,run_underlying ht,run_underlying ht2,sizeOf,typeInfo,hi,Builtin.lenOf,hroom,hf,this]
theorem Zq8 (z:Array Value) (n:Nat):(Builtin.zeroCells z n).size=n*z.size:=by simp[Builtin.zeroCells]
theorem ZAo (pre:Pre G R w e a Hm) {t t2 el el2:TypeId}{sz:Nat}{i:TypeInfo}{zv:Value}{x y:Operand}{x' y':Opd}{v:V}{up:List (Nat×Blk)}{nw:List Blk} (hop:o.op = .call { callee:=.builtin .append,args:=#[x,y],argTypes:=#[t,t2] })
  (he:Zvr P t el sz i zv) (ht2:P.underlying t2=some (.slice el2)) (hx:Zz G x x'=true) (hy:Zz G y y'=true) (h:ZgN nid Hm sz (x'.val e) (y'.val e)=some (v,up,nw)) (hn:∀i,nid<=i->i<nid+nw.length->R.M i=none) (hp:ZK R.H up nid nw H') :
  Zbl P o a w (Post R w nid nw.length H' v):=by
 have hv1:=pre.opd hx
 have hv2:=pre.opd hy
 unfold ZgN at h
 cases hes:elems Hm (y'.val e) with
 | none=>rw[hes] at h;cases h
 | some ys=>
  rw[hes] at h
  dsimp only at h
  cases hsz:Zjz sz ys 0 with
  | false=>rw[hsz] at h;cases h
  | true=>
   rw[hsz] at h
   simp only[cT] at h
   obtain⟨us2,ad2,cap2,q1,q2,hE2,q4⟩:=ZwB pre hes hsz hv2
   have hl2:(cellsOf us2).length=ys.length*i.size:=by rw[Zdj us2 hE2.size,hE2.len,he.s]
   have hloc:0<ys.length->∃b off,ad2=some ⟨b,off,none⟩/\∀(j:Nat) v,(cellsOf us2)[j]? = some v->w.cell? ⟨b,off+j,none⟩=some v:=fun h=>q4 (List.length_pos_iff.1 h)
   have hf:=Zh7 (P:=P) (w:=w) (ad:=ad2) (len:=ys.length) (cap:=cap2) hl2 hloc
   have hfd:=Zh7 (P:=P) (w:=w.drew) (ad:=ad2) (len:=ys.length) (cap:=cap2) hl2 hloc
   have fin:∀{v:V} {u:Value} {w':World} {n:Nat},(Builtin.append_ #[t,t2] o.type #[a.eval x,a.eval y]).run P w = .ok u w'->Post R w nid n H' v u w'->Zbl P o a w (Post R w nid n H' v):=
    fun h1 h2=>Zaq (s:=Builtin.append_ #[t,t2] o.type #[a.eval x,a.eval y]) (by rw[ZeY hop,BigFrame.builtin_append];simp) h1 h2
   have grow:∀{R1:RP} {xs:List D} {us1:List Value} {ad:Option Addr} {cap:Nat},R1.OK w->R1.M nid=none->Els R1 w sz xs us1->Els R1 w sz ys us2->ZK R1.H [] nid [.arr sz (xs++ys)] H'->(∀{n H' v u w'},Post R1 w nid n H' v u w'->Post R w nid n H' v u w') ->
     a.eval x = .slice ad xs.length cap->(0<xs.length->∃b off,ad=some ⟨b,off,none⟩/\∀(j:Nat) v,(cellsOf us1)[j]? = some v->w.cell? ⟨b,off+j,none⟩=some v)->cap<xs.length+ys.length->xs.length+ys.length<=lim ->
     Zbl P o a w (Post R w nid 1 H' (.sl nid sz)):=by
    intro R1 xs us1 ad cap ok1 hn1 hE1 hE2' hp1 hup h1 h2 h3 h4
    have hl1:(cellsOf us1).length=xs.length*i.size:=by rw[Zdj us1 hE1.size,hE1.len,he.s]
    have hfo:=Zh7 (P:=P) (w:=w.drew) (ad:=ad) (len:=xs.length) (cap:=cap) hl1 h2
    have hby:=he.by_
    have h4':xs.length+ys.length<=1073741824:=h4
    have hmul:(xs.length+ys.length)*i.bytes<=140737488355328:=le_trans (Nat.mul_le_mul h4' hby) (by omega)
    have hrun:=Zou (P:=P) (w:=w) (ty:=o.type) he.u ht2 he.inf he.z hfo hfd h3 (by omega) (growslice_fits h3 hmul)
    have hge:=grownCap_ge w (xs.length+ys.length) cap el
    refine fin (by rw[h1,q1];exact hrun) (hup (Post.drew ?_))
    have hd:Ext R1 w R1 w.drew:=Ext.draw rfl rfl rfl rfl
    have hE:=(hE1.append hE2').ext hd ok1.b01
    have hll:(xs++ys).length=xs.length+ys.length:=lA
    have:=ZrN (R:=R1) (w:=w.drew) (el:=el) (cap:=grownCap w (xs.length+ys.length) cap el) (ok1.draw rfl rfl rfl rfl) he.pos hE (cs:=(cellsOf us1).toArray++(cellsOf us2).toArray++Builtin.zeroCells zv.cells (grownCap w (xs.length+ys.length) cap el-(xs.length+ys.length))) (fun j v hv=>by
     rw[ZrJ] at hv
     have hlt:=(gQ hv).1
     rw[Array.getElem?_append_left (by simpa using hlt)]
     simpa using hv) (by
     simp only[Array.size_append,List.size_toArray,hl1,hl2,he.s,Zq8,he.zs]
     rw[<- add_mul,<- add_mul];congr 1;omega) (by rw[hll];exact hge) hn1 hp1
    rwa [hll] at this
   have fresh:∀{R1:RP} {ad:Option Addr},R1.OK w->R1.M nid=none->Els R1 w sz ys us2->ZK R1.H [] nid [.arr sz ys] H'->(∀{n H' v u w'},Post R1 w nid n H' v u w'->Post R w nid n H' v u w')->a.eval x = .slice ad 0 0->ys.length<=lim ->
     Zbl P o a w (Post R w nid 1 H' (.sl nid sz)):=by
    intro R1 ad ok1 hn1 hE2' hp1 hup h1 h4
    rcases Nat.eq_zero_or_pos ys.length with hy0 | hy0
    ·have hys:ys=[]:=List.eq_nil_of_length_eq_zero hy0
     subst hys
     have hus:cellsOf us2=[]:=List.eq_nil_of_length_eq_zero (by simpa using hl2)
     rw[hus] at hf
     refine fin (u:=.slice ad 0 0) (w':=w) (by
      rw[h1,q1]
      exact ZhS (P:=P) he.u ht2 he.inf hf (Nat.le_refl _) (fun b _=>rfl) (fun _=>rfl)) (hup (Post.number ok1 he.pos hn1 hp1 ⟨_,rfl⟩))
    ·have:=grow (R1:=R1) (xs:=[]) (us1:=[]) (ad:=ad) (cap:=0) ok1 hn1 ⟨rfl,by simp,by simp,by simp⟩ hE2' hp1 hup h1 (fun h=>by simp at h) (by simpa using hy0) (by simpa using h4)
     exact this
   have room:∀{b c off p cap len:Nat} {xs:List D} {us:List Value} {cs:Array Value} {el':TypeId},a.eval x = .slice (some ⟨c,off,none⟩) len cap->off+len*sz=p*sz->len+ys.length<=cap->w.heap[c]? = some (.cells cs el' (0,0))->(p+ys.length)*sz<=cs.size ->
     ∃cs1:Array Value,(Builtin.append_ #[t,t2] o.type #[a.eval x,a.eval y]).run P w = .ok (.slice (some ⟨c,off,none⟩) (len+ys.length) cap) (w.setCells c (p*sz) (cellsOf us2))/\cs1.toList=ZS cs.toList (p*sz) (cellsOf us2)/\(w.setCells c (p*sz) (cellsOf us2)).heap[c]? = some (.cells cs1 el' (0,0))/\cs1.size=cs.size:=by
    intro b c off p cap len xs us cs el' h1 h2 h3 h4 h5
    obtain⟨⟨cs1,g1,g2⟩,_⟩:=Zei c (cellsOf us2) (p*sz) w cs el' (0,0) h4
    refine⟨cs1,?_,g1,g2,by rw[<- Array.length_toList,g1,Zb7,Array.length_toList]⟩
    rw[h1,q1]
    have hst:=run_storeCells_cells (P:=P) c (p*sz) (cellsOf us2) 0 w (fun j hj=>by
     rw[Za2 h4]
     rw[hl2,he.s] at hj
     have:p*sz+0+j<cs.size:=by rw[add_mul] at h5;omega
     rw[Array.getElem?_eq_getElem this];rfl) (fun j _=>ZuT.not (show ZuT (0,0) from Nat.le_refl _) h4 _) hE2.one
    refine ZhS (P:=P) he.u ht2 he.inf hf h3 (fun b hb=>?_) (fun h=>by cases h)
    cases hb
    rw[Addr.add_lit,he.s,h2]
    exact hst
   split at h
   ·rename_i szx hxe
    rw[hxe] at hv1
    obtain⟨ad,hu1⟩:=hv1
    cases hc:Nat.ble ys.length lim with
    | false=>rw[hc] at h;cases h
    | true=>
     rw[hc] at h
     simp only[cT,sJ,pJ] at h
     obtain⟨rfl,rfl,rfl⟩:=h
     have hn:=hn nid (Nat.le_refl _) (by simp)
     exact fresh pre.ok hn hE2 hp (fun h=>h) hu1 (Nat.le_of_ble_eq_true hc)
   ·rename_i b sz' hxe
    rw[hxe] at hv1
    cases hb:nth Hm b with
    | none=>rw[hb] at h;cases h
    | some blk=>
     rw[hb] at h
     cases blk<;>try (cases h;done)
     rename_i sz'' xs
     dsimp only at h
     cases hs:(Nat.beq sz sz'&&Nat.beq sz sz'') with
     | false=>rw[hs] at h;cases h
     | true=>
      rw[hs] at h
      simp only[cT] at h
      simp only[aT] at hs
      obtain rfl:=nQ hs.1
      obtain rfl:=nQ hs.2
      cases hc:Nat.ble (xs.length+ys.length) lim with
      | false=>rw[hc] at h;cases h
      | true=>
       rw[hc] at h
       simp only[cT,sJ,pJ] at h
       obtain⟨rfl,rfl,rfl⟩:=h
       have hnn:R.M nid=none:=hn nid (Nat.le_refl _) (by simp)
       have hc':=Nat.le_of_ble_eq_true hc
       obtain⟨m,r1,r2,r3,r4⟩:=Znm pre hb hv1
       have ok1:RP.OK { R with H:=Zbc R.H (Zeg [b]) } w:=pre.ok.kill (fun i blk=>ZfP [b] _ i blk)
       have hx1:Ext R w { R with H:=Zbc R.H (Zeg [b]) } w:=Ext.kill (fun i blk=>ZfP [b] _ i blk)
       obtain⟨s0,ad,cap,s1,s2,s3⟩:=r4
       rcases s3 with⟨s3,s4⟩ | ⟨c,cs,el',fr',s4,s5,s6,s7⟩
       ·have hxs:xs=[]:=List.eq_nil_of_length_eq_zero s4.symm
        subst hxs
        subst s3
        exact fresh ok1 hnn (hE2.ext hx1 pre.ok.b01) (show ZK (Zbc R.H (Zeg [b])) [] nid [.arr sz ys] H' from hp) (fun h=>Post.afterKill pre.ok h) s1 (by simpa using hc')
       ·subst s4;subst s5
        obtain⟨us1,cs2,el2',hE1,t1,t2'⟩:=Zsh r3
        rw[s6] at t1;cases t1;have t1:=s6
        by_cases hroom:xs.length+ys.length<=cap
        ·obtain⟨cs1,u1,u2,u3,u4⟩:=room (b:=b) (p:=xs.length) (xs:=xs) (us:=us1) s1 (by rw[zero_mul,zero_add]) hroom t1 (by rw[s7,zero_add];exact Nat.mul_le_mul_right sz hroom)
         obtain⟨_,g3,g4,g5,g6,g7⟩:=Zei c (cellsOf us2) (xs.length*sz) w cs el' (0,0) t1
         refine fin u1 (Post.reuse pre.ok (by rw[<- ZI];exact r2) (by simp) r1 hnn t1 u3 u4 g3 g4 g5 g6 g7 hp fun R' hx' hM hH=>⟨?_,?_⟩)
         ·obtain⟨us',v1,v2⟩:=ZtC (R:=R') (hE1.ext hx' pre.ok.b01) (hE2.ext hx' pre.ok.b01) (Nat.le_refl _) t2' (by rw[s7,zero_add];exact Nat.mul_le_mul_right sz hroom) u2
          have hlist:xs.take xs.length++(ys++xs.drop (xs.length+ys.length))=xs++ys:=by
           rw[List.take_length,List.drop_eq_nil_of_le (by omega),append_nil]
          rw[hlist] at v1
          exact Els.blk v1 he.pos u3 v2
         ·refine⟨⟨_,_,_,rfl⟩,_,hM,fun zs hz=>?_⟩
          rw[ZI,hH] at hz;cases hz
          exact⟨by omega,_,_,by rw[lA],by rw[lA];exact hroom,.inr ⟨c,cs1,el',(0,0),rfl,by rw[zero_mul],u3,by rw[u4,s7]⟩⟩
        ·refine grow (us1:=us1) ok1 hnn (hE1.ext hx1 pre.ok.b01) (hE2.ext hx1 pre.ok.b01) hp (fun h=>Post.afterKill pre.ok h) s1 (fun _=>⟨c,0*sz,rfl,fun j v hj=>?_⟩) (by omega) hc'
         rw[Za2 t1,zero_mul,zero_add]
         exact t2' j v hj
   ·rename_i b sz' of len hxe
    rw[hxe] at hv1
    cases hb:nth Hm b with
    | none=>rw[hb] at h;cases h
    | some blk=>
     rw[hb] at h
     cases blk<;>try (cases h;done)
     rename_i sz'' xs
     dsimp only at h
     cases hs:(Nat.beq sz sz'&&Nat.beq sz sz''&&Nat.ble (of+len+ys.length) xs.length) with
     | false=>rw[hs] at h;cases h
     | true=>
      rw[hs] at h
      simp only[cT,sJ,pJ] at h
      obtain⟨rfl,rfl,rfl⟩:=h
      simp only[aT,ble_eq] at hs
      obtain⟨⟨hs1,hs2⟩,hs3⟩:=hs
      obtain rfl:=nQ hs1
      obtain rfl:=nQ hs2
      obtain⟨m,r1,r2,r3,r4⟩:=ZkY pre hb hv1
      obtain⟨s0,ad,cap,s1,s2,s3⟩:=r4
      rcases s3 with⟨s3,s4⟩ | ⟨c,cs,el',fr',s4,s5,s6,s7⟩
      ·subst s3
       have hl0:len=0:=by omega
       subst hl0
       have hy0:ys.length=0:=by omega
       have hys:ys=[]:=List.eq_nil_of_length_eq_zero hy0
       subst hys
       have hus:cellsOf us2=[]:=List.eq_nil_of_length_eq_zero (by simpa using hl2)
       rw[hus] at hf
       refine fin (u:=.slice ad 0 0) (w':=w) (by
        rw[s1,q1]
        exact ZhS (P:=P) he.u ht2 he.inf hf (Nat.le_refl _) (fun b _=>rfl) (fun _=>rfl)) ?_
       have hlist:xs.take (of+0)++([]++xs.drop (of+0+([]:List D).length))=xs:=by simp
       rw[hlist] at hp
       have hsame:Zbc R.H [(b,.arr sz xs)]=R.H:=by
        show ZbL R.H b (.arr sz xs)=R.H
        rw[Zah]
        apply List.ext_getElem?
        intro j
        rw[List.getElem?_set]
        split
        ·rename_i hbj
         subst hbj
         rw[ZI] at r2
         rw[if_pos (gQ r2).1,r2]
        ·rfl
       have hp':ZK R.H [] nid [] H':=fun j=>by
        have:=hp j
        rwa [hsame] at this
       refine Post.stay pre.ok hp' ?_
       rw[s1] at hv1
       exact hv1
      ·subst s4;subst s5
       obtain⟨us1,cs2,el2',hE1,t1,t2'⟩:=Zsh r3
       rw[s6] at t1;cases t1;have t1:=s6
       have hxl:xs.length<=of+cap:=by
        obtain⟨k0,_,k1⟩:=r3
        rcases k1 with⟨k1,_⟩ | ⟨c',cs2,el2',k1,k2,k3,_⟩
        ·cases k1
        ·cases k1
         rw[t1] at k2;cases k2
         rw[s7] at k3
         exact Nat.le_of_mul_le_mul_right k3 k0
       have hfit:(of+len+ys.length)*sz<=cs.size:=by
        rw[s7];exact Nat.mul_le_mul_right sz (by omega)
       obtain⟨cs1,u1,u2,u3,u4⟩:=room (b:=b) (p:=of+len) (xs:=xs) (us:=us1) s1 (by rw[add_mul]) (by omega) t1 hfit
       obtain⟨_,g3,g4,g5,g6,g7⟩:=Zei c (cellsOf us2) ((of+len)*sz) w cs el' (0,0) t1
       have hnl:(xs.take (of+len)++(ys++xs.drop (of+len+ys.length))).length=xs.length:=by
        simp only[lA,length_take,length_drop];omega
       refine fin u1 (Post.write (ks:=[]) pre.ok (by rw[<- ZI];exact r2) r1 (blk:=.arr sz (xs.take (of+len)++(ys++xs.drop (of+len+ys.length)))) (old:=.arr sz xs) ⟨rfl,hnl⟩ t1 u3 u4 g3 g4 g5 g6 g7 (by simp) hp (fun R' hx' hL hlv hb0=>?_) (fun R' hx' hM hh=>?_))
       ·obtain⟨us',v1,v2⟩:=ZtC (R:=R') (hE1.ext hx' pre.ok.b01) (hE2.ext hx' pre.ok.b01) (by omega) t2' hfit u2
        exact Els.blk v1 he.pos u3 v2
       ·refine⟨⟨_,_,_,rfl⟩,some c,by rw[hM];exact r1,fun zs hz=>?_⟩
        rw[ZI] at hz
        have:=hh _ hz (by simp)
        cases this
        exact⟨by rw[hnl];omega,_,_,rfl,by omega,.inr ⟨c,cs1,el',(0,0),rfl,rfl,u3,by rw[u4,s7]⟩⟩
   ·cases h
theorem Ext.aside (ok:R.OK w) (ob:Obj):Ext R w R (w.alloc ob) where
 m:=fun i x hx=>hx
 h:=fun i x blk _ hb hd=>⟨blk,hb,Blk.like_refl hd⟩
 b1:=rfl
 b0:=rfl
 same:=fun b hb _=>Go.RowKit.Below.heap_alloc _ _ _ hb
 row:=fun b cs el fr hb=>by
  have hlt:b<w.heap.size:=(Array.getElem?_eq_some_iff.1 hb).1
  exact⟨cs,el,fr,by rw[Go.RowKit.Below.heap_alloc _ _ _ hlt];exact hb,rfl⟩
 grow:=by show w.heap.size<=(w.heap.push ob).size;simp
 liv:=fun c _ h=>h
 os:=rfl
 tape:=rfl
 output:=rfl
theorem RP.OK.aside (ok:R.OK w) (ob:Obj):R.OK (w.alloc ob) where
 b01:=ok.b01
 al:=ok.al
 inj:=ok.inj
 lt:=fun i c h=>lt_of_lt_of_le (ok.lt i c h) (Ext.aside ok ob).grow
 blk:=fun i m blk h hm=>(Ext.aside ok ob).blkOK ok.b01 (fun c hc=>Go.RowKit.Below.heap_alloc _ _ _ (ok.lt i c (by rw[hm,hc]))) (ok.blk i m blk h hm)
 nb:=ok.nb
 bl:=fun c h=>lt_of_lt_of_le (ok.bl c h) (Ext.aside ok ob).grow
theorem Zzn (pre:Pre G R w e a Hm) {t t2 el el2:TypeId}{sz:Nat}{i:TypeInfo}{zv:Value}{x y:Operand}{x' y':Opd}{v:V} (hop:o.op = .call { callee:=.builtin .append,args:=#[x,y],argTypes:=#[t,t2] })
  (he:Zvr P t el sz i zv) (ht2:P.underlying t2=some (.slice el2)) (hx:Zz G x x'=true) (hy:Zz G y y'=true) (h:ZiN Hm sz (x'.val e) (y'.val e)=some v) (hp:ZK R.H [] nid [] H') :
  Zbl P o a w (Post R w nid 0 H' v):=by
 have hv1:=pre.opd hx
 have hv2:=pre.opd hy
 unfold ZiN at h
 split at h
 ·rename_i szx hxe
  rw[hxe] at hv1
  obtain⟨ad,hu1⟩:=hv1
  cases hes:elems Hm (y'.val e) with
  | none=>rw[hes] at h;cases h
  | some ys=>
   rw[hes] at h
   dsimp only at h
   cases hc:(Zjz sz ys 0&&Nat.ble ys.length lim) with
   | false=>rw[hc] at h;cases h
   | true=>
    rw[hc] at h
    simp only[cT,sJ] at h
    subst h
    simp only[aT] at hc
    have h4:ys.length<=1073741824:=Nat.le_of_ble_eq_true hc.2
    obtain⟨us2,ad2,cap2,q1,q2,hE2,q4⟩:=ZwB pre hes hc.1 hv2
    have hl2:(cellsOf us2).length=ys.length*i.size:=by rw[Zdj us2 hE2.size,hE2.len,he.s]
    have hloc:0<ys.length->∃b off,ad2=some ⟨b,off,none⟩/\∀(j:Nat) v,(cellsOf us2)[j]? = some v->w.cell? ⟨b,off+j,none⟩=some v:=fun h=>q4 (List.length_pos_iff.1 h)
    have hf:=Zh7 (P:=P) (w:=w) (ad:=ad2) (len:=ys.length) (cap:=cap2) hl2 hloc
    have hfd:=Zh7 (P:=P) (w:=w.drew) (ad:=ad2) (len:=ys.length) (cap:=cap2) hl2 hloc
    have fin:∀{v:V} {u:Value} {w':World} {n:Nat},(Builtin.append_ #[t,t2] o.type #[a.eval x,a.eval y]).run P w = .ok u w'->Post R w nid n H' v u w'->Zbl P o a w (Post R w nid n H' v):=
     fun h1 h2=>Zaq (s:=Builtin.append_ #[t,t2] o.type #[a.eval x,a.eval y]) (by rw[ZeY hop,BigFrame.builtin_append];simp) h1 h2
    rcases Nat.eq_zero_or_pos ys.length with hy0 | hy0
    ·have hys:ys=[]:=List.eq_nil_of_length_eq_zero hy0
     subst hys
     have hus:cellsOf us2=[]:=List.eq_nil_of_length_eq_zero (by simpa using hl2)
     rw[hus] at hf
     refine fin (u:=.slice ad 0 0) (w':=w) (by
      rw[hu1,q1]
      exact ZhS (P:=P) he.u ht2 he.inf hf (Nat.le_refl _) (fun b _=>rfl) (fun _=>rfl)) (Post.stay pre.ok hp ⟨ad,0,0,rfl,rfl,Nat.le_refl _,by simp,fun hne=>absurd rfl hne⟩)
    ·have hby:=he.by_
     have hmul:(0+ys.length)*i.bytes<=140737488355328:=by rw[zero_add];exact le_trans (Nat.mul_le_mul h4 hby) (by omega)
     have hfo:(Builtin.firstCells i.size 0 (.slice ad 0 0)).run P w.drew = .ok ([]:List Value).toArray w.drew:=Zh7 (by simp) (fun h=>by omega)
     have hrun:=Zou (P:=P) (w:=w) (ty:=o.type) he.u ht2 he.inf he.z hfo hfd (sLen:=0) (sCap:=0) (by omega) (by omega) (growslice_fits (by omega) hmul)
     have hge:=grownCap_ge w (0+ys.length) 0 el
     refine fin (by rw[hu1,q1];exact hrun) (Post.drew ?_)
     have okd:R.OK w.drew:=pre.ok.draw rfl rfl rfl rfl
     have xd:Ext R w R w.drew:=Ext.draw rfl rfl rfl rfl
     have xa:=Ext.aside okd (.cells (([]:List Value).toArray++(cellsOf us2).toArray++Builtin.zeroCells zv.cells (grownCap w (0+ys.length) 0 el-(0+ys.length))) el)
     refine⟨R,xa,okd.aside _,hp.same.symm,⟨some ⟨w.heap.size,0,none⟩,0+ys.length,_,rfl,zero_add _,hge,hE2.esc,fun _=>⟨w.heap.size,0,sz,rfl,⟨fun hl=>?_,fun hb=>?_⟩,?_,Zh6 ys 0 fun j x hj=>?_⟩⟩,fun i h _=>h⟩
     ·obtain⟨i',_,hi'⟩:=hl
      exact absurd (pre.ok.lt i' _ hi') (Nat.lt_irrefl _)
     ·exact absurd (pre.ok.bl _ hb) (Nat.lt_irrefl _)
     ·show w.heap.size<(w.heap.push _).size;simp
     ·have hju:j<us2.length:=by rw[hE2.len];exact(gQ hj).1
      have hu:us2[j]? = some us2[j]:=gE hju
      refine⟨us2[j],xa.den pre.ok.b01 (xd.den pre.ok.b01 (hE2.den j x _ hj hu)),hE2.size _ (getElem_mem hju),fun k v hk=>?_⟩
      have hfl:=Zef us2 hE2.size j k us2[j] v hu hk
      have hheap:(w.drew.alloc (.cells (([]:List Value).toArray++(cellsOf us2).toArray++Builtin.zeroCells zv.cells (grownCap w (0+ys.length) 0 el-(0+ys.length))) el)).heap[w.heap.size]? = some (.cells (([]:List Value).toArray++(cellsOf us2).toArray++Builtin.zeroCells zv.cells (grownCap w (0+ys.length) 0 el-(0+ys.length))) el (0,0)):=by
       show(w.heap.push _)[w.heap.size]? = _
       simp
      rw[Za2 hheap]
      have hlt:=(gQ hfl).1
      rw[Array.getElem?_append_left (by simp;omega),Array.getElem?_append_right (by simp)]
      simpa using hfl
 ·cases h
end
end
section
section
variable {A1 A1' A0 A0' AL AL':Nat->Prop} {w:World}
mutual
theorem Zaf.nofn (h1:∀b,A1 b->A1' b) (h0:∀b,A0 b->A0' b):∀(x:D) (u:Value),x.nofn=true->Zaf A1 A0 AL w x u->Zaf A1' A0' AL' w x u
 | .bool b,u,_,h=>h
 | .int k n,u,_,h=>h
 | .str s,u,_,h=>h
 | .list own xs,u,_,h=>by
  obtain⟨a,len,cap,e1,e2,e3,e4,e5⟩:=h
  refine⟨a,len,cap,e1,e2,e3,e4,fun hne=>?_⟩
  obtain⟨b,off,sz,f1,f2,f3,f4⟩:=e5 hne
  refine⟨b,off,sz,f1,?_,f3,ZeG.lift h1 b sz off xs e4 f4⟩
  cases own
  ·exact h0 _ f2
  ·exact h1 _ f2
 | .agg cs,u,he,h=>by
  obtain⟨us,e1,e2⟩:=h
  exact⟨us,e1,Z6.nofn h1 h0 cs us he e2⟩
 | .tup cs,u,he,h=>by
  obtain⟨us,e1,e2⟩:=h
  exact⟨us,e1,Z6.nofn h1 h0 cs us he e2⟩
 | .fn f caps,u,he,h=>by
  obtain⟨us,e1,e2⟩:=h
  simp only[D.nofn,List.isEmpty_iff] at he
  subst he
  exact⟨us,e1,e2⟩
 | .nilfn,u,_,h=>h
 | .rptr cs,u,he,h=>by
  obtain⟨b,off,e1,e2,e3,e4⟩:=h
  exact⟨b,off,e1,h0 _ e2,e3,Zbt.nofn h1 h0 b off cs he e4⟩
 | .nilp,u,_,h=>h
 | .iface t v,u,he,h=>by
  obtain⟨u',e1,e2⟩:=h
  exact⟨u',e1,Zaf.nofn h1 h0 v u' he e2⟩
 | .nilI,u,_,h=>h
theorem Z6.nofn (h1:∀b,A1 b->A1' b) (h0:∀b,A0 b->A0' b):∀(xs:List D) (us:List Value),D.nofns xs=true->Z6 A1 A0 AL w xs us->Z6 A1' A0' AL' w xs us
 | [],us,_,h=>h
 | x :: xs,us,he,h=>by
  obtain⟨u,us',e1,e2,e3⟩:=h
  simp only[D.nofns,aT] at he
  exact⟨u,us',e1,Zaf.nofn h1 h0 x u he.1 e2,Z6.nofn h1 h0 xs us' he.2 e3⟩
theorem Zbt.nofn (h1:∀b,A1 b->A1' b) (h0:∀b,A0 b->A0' b) (b off:Nat):∀(xs:List D),D.nofns xs=true->Zbt A1 A0 AL w b off xs->Zbt A1' A0' AL' w b off xs
 | [],_,h=>trivial
 | x :: xs,he,h=>by
  obtain⟨⟨u,e1,e2⟩,e3⟩:=h
  simp only[D.nofns,aT] at he
  exact⟨⟨u,e1,Zaf.nofn h1 h0 x u he.1 e2⟩,Zbt.nofn h1 h0 b (off+1) xs he.2 e3⟩
end
end
structure Ren (R R':RP) (ρ:Nat->Option Nat):Prop where
 m:∀b j x,ρ b=some j->R.M b=some x->R'.M j=some x
 h:∀(b j:Nat) x blk,ρ b=some j->R.M b=some x->R'.H[j]? = some blk->blk ≠ .dead->∃old,R.H[b]? = some old/\old.like blk
theorem ZuM {w:World}{m:Option Nat}{xs ys:List D}{sz o len:Nat}{u:Value} (hl:ys.length=xs.length) (h:Zt9 w m xs sz o len u):Zt9 w m ys sz o len u:=by
 obtain⟨h1,a,cap,h2,h3,h4⟩:=h
 refine⟨by omega,a,cap,h2,h3,?_⟩
 rcases h4 with⟨h4,h5⟩ | h4
 ·exact .inl ⟨h4,by omega⟩
 ·exact .inr h4
section
variable {R R':RP} {w:World} {ρ:Nat->Option Nat} {Q:V->Prop}
structure Zk4 (Q:V->Prop):Prop where
 agg:∀cs,Q (.agg cs)->∀c∈cs,Q c
 tup:∀cs,Q (.tup cs)->∀c∈cs,Q c
 fn:∀f cs,Q (.fn f cs)->∀c∈cs,Q c
mutual
theorem ZqH (hr:Ren R R' ρ) (hQ:Zk4 Q) (hd:∀x u,Q (.d x)->R.den w x u->R'.den w x u):∀(v:V) (u:Value),Q v->Z5 R w v u->Z5 R' w (ZnA ρ v) u
 | .d x,u,q,h=>hd x u q h
 | .bad,u,q,h=>trivial
 | .ptr b o,u,q,h=>by
  obtain⟨c,h1,h2⟩:=h
  simp only[ZnA]
  cases hb:ρ b with
  | none=>trivial
  | some j=>exact⟨c,hr.m b j _ hb h1,h2⟩
 | .eptr b sz i k,u,q,h=>by
  obtain⟨c,h1,h2⟩:=h
  simp only[ZnA]
  cases hb:ρ b with
  | none=>trivial
  | some j=>exact⟨c,hr.m b j _ hb h1,h2⟩
 | .sl b sz,u,q,h=>by
  obtain⟨h0,m,h1,h2⟩:=h
  simp only[ZnA]
  cases hb:ρ b with
  | none=>trivial
  | some j=>
   refine⟨h0,m,hr.m b j m hb h1,fun xs hc=>?_⟩
   rw[ZI] at hc
   obtain⟨old,f1,f2⟩:=hr.h b j m _ hb h1 hc (by simp)
   cases old<;>simp[Blk.like] at f2
   obtain⟨rfl,f2⟩:=f2
   have:=ZuM f2 (h2 _ (by rw[ZI];exact f1))
   rw[f2];exact this
 | .slp b sz o len,u,q,h=>by
  obtain⟨h0,m,h1,h2⟩:=h
  simp only[ZnA]
  cases hb:ρ b with
  | none=>trivial
  | some j=>
   refine⟨h0,m,hr.m b j m hb h1,fun xs hc=>?_⟩
   rw[ZI] at hc
   obtain⟨old,f1,f2⟩:=hr.h b j m _ hb h1 hc (by simp)
   cases old<;>simp[Blk.like] at f2
   obtain⟨rfl,f2⟩:=f2
   exact ZuM f2 (h2 _ (by rw[ZI];exact f1))
 | .nilsl sz,u,q,h=>h
 | .agg cs,u,q,h=>by
  obtain⟨us,h1,h2⟩:=h
  exact⟨us,h1,Zkg hr hQ hd cs us (hQ.agg cs q) h2⟩
 | .tup cs,u,q,h=>by
  obtain⟨us,h1,h2⟩:=h
  exact⟨us,h1,Zkg hr hQ hd cs us (hQ.tup cs q) h2⟩
 | .fn f cs,u,q,h=>by
  obtain⟨us,h1,h2⟩:=h
  exact⟨us,h1,Zkg hr hQ hd cs us (hQ.fn f cs q) h2⟩
 | .mp b,u,q,h=>by
  obtain⟨h0,m,h1,h2⟩:=h
  simp only[ZnA]
  cases hb:ρ b with
  | none=>trivial
  | some j=>
   refine⟨h0,m,hr.m b j m hb h1,fun es hc=>?_⟩
   rw[ZI] at hc
   obtain⟨old,f1,f2⟩:=hr.h b j m _ hb h1 hc (by simp)
   cases old<;>simp[Blk.like] at f2
   exact h2 _ (by rw[ZI];exact f1)
 | .ch b,u,q,h=>by
  obtain⟨h0,m,h1,h2⟩:=h
  simp only[ZnA]
  cases hb:ρ b with
  | none=>trivial
  | some j=>
   refine⟨h0,m,hr.m b j m hb h1,fun es hc=>?_⟩
   rw[ZI] at hc
   obtain⟨old,f1,f2⟩:=hr.h b j m _ hb h1 hc (by simp)
   cases old<;>simp[Blk.like] at f2
   exact h2 _ (by rw[ZI];exact f1)
theorem Zkg (hr:Ren R R' ρ) (hQ:Zk4 Q) (hd:∀x u,Q (.d x)->R.den w x u->R'.den w x u):∀(vs:List V) (us:List Value),(∀v∈vs,Q v)->ZY R w vs us->ZY R' w (Zii ρ vs) us
 | [],us,_,h=>h
 | v :: vs,us,q,h=>by
  obtain⟨u,us',h1,h2,h3⟩:=h
  exact⟨u,us',h1,ZqH hr hQ hd v u (q v (by simp)) h2,Zkg hr hQ hd vs us' (fun x hx=>q x (by simp[hx])) h3⟩
end
theorem Ztb (ρ:Nat->Option Nat):∀(vs:List V),(Zii ρ vs).length=vs.length
 | []=>rfl
 | v :: vs=>by simp[Zii,Ztb ρ vs]
theorem ZtF (ρ:Nat->Option Nat):∀(vs:List V) (j:Nat),(Zii ρ vs)[j]? = (vs[j]?).map (ZnA ρ)
 | [],j=>by simp[Zii]
 | v :: vs,0=>by simp[Zii]
 | v :: vs,j+1=>by simp[Zii,ZtF ρ vs j]
theorem Zh3 {b c:Blk}:b.like (ZhI ρ c)↔b.like c:=by
 cases c<;>cases b<;>simp[ZhI,Blk.like]
theorem ZyZ {b c:Blk}:(ZhI ρ b).like c↔b.like c:=by
 cases b<;>cases c<;>simp[ZhI,Blk.like]
theorem Ze3 {b:Blk}:ZhI ρ b = .dead↔b = .dead:=by cases b<;>simp[ZhI]
theorem ZqM (hr:Ren R R' ρ) (hQ:Zk4 Q) (hd:∀x u,Q (.d x)->R.den w x u->R'.den w x u) (he:∀x u,x.esc=true->R.den w x u->R'.den w x u) {m:Option Nat}{blk:Blk} (hq:∀cs,blk = .cells cs->∀c∈cs,Q c) (h:Zgl R w m blk):Zgl R' w m (ZhI ρ blk):=by
 cases blk with
 | dead=>trivial
 | cells vs=>
  obtain⟨c,cs,el,fr,h1,h2,h3,h4,h5⟩:=h
  refine⟨c,cs,el,fr,h1,h2,h3,by rw[Ztb];exact h4,fun k v hk=>?_⟩
  rw[ZtF] at hk
  cases hv:vs[k]? with
  | none=>rw[hv] at hk;cases hk
  | some v0=>
   rw[hv] at hk
   simp only[map_some,sJ] at hk
   subst hk
   obtain⟨u,f1,f2⟩:=h5 k v0 hv
   exact⟨u,f1,ZqH hr hQ hd v0 u (hq vs rfl v0 (mG hv)) f2⟩
 | arr sz xs=>
  obtain⟨h0,h1,h2⟩:=h
  refine⟨h0,h1,?_⟩
  rcases h2 with h2 | ⟨c,cs,el,h3,h4,h5,h6⟩
  ·exact .inl h2
  ·refine .inr ⟨c,cs,el,h3,h4,h5,fun j x hj=>?_⟩
   obtain⟨u,f1,f2,f3⟩:=h6 j x hj
   exact⟨u,he x u (h1 x (mG hj)) f1,f2,f3⟩
 | mp es=>exact h
 | ch xs=>exact h
end
theorem Zjq:Zk4 (fun _=>True):=⟨fun _ _ _ _=>trivial,fun _ _ _ _=>trivial,fun _ _ _ _ _=>trivial⟩
theorem ZjQ:∀(cs:List V),Zqb cs=true↔∀c∈cs,ZsG c=true
 | []=>by simp[Zqb]
 | c :: cs=>by simp[Zqb,ZjQ cs]
theorem ZiF:∀(cs:List V),ZlW cs=true↔∀c∈cs,Zm3 c=true
 | []=>by simp[ZlW]
 | c :: cs=>by simp[ZlW,ZiF cs]
theorem Zrf:Zk4 (fun v=>ZsG v=true):=⟨fun cs h=>(ZjQ cs).1 h,fun cs h=>(ZjQ cs).1 h,fun f cs h=>(ZjQ cs).1 h⟩
theorem Zp6:Zk4 (fun v=>Zm3 v=true):=⟨fun cs h=>(ZiF cs).1 h,fun cs h=>(ZiF cs).1 h,fun f cs h=>(ZiF cs).1 h⟩
theorem ZvZ:∀(H:List Blk) (j:Nat) (cs:List V),Zm8 H=true->H[j]? = some (.cells cs)->∀c∈cs,ZsG c=true
 | [],j,cs,_,h=>by simp at h
 | b :: H,0,cs,he,h=>by
  simp at h;subst h
  simp only[Zm8,aT] at he
  exact(ZjQ cs).1 he.1
 | b :: H,j+1,cs,he,h=>by
  refine ZvZ H j cs ?_ (by simpa using h)
  cases b<;>simp_all [Zm8]
theorem ZtA:∀(H:List Blk) (j:Nat) (cs:List V),ZjG H=true->H[j]? = some (.cells cs)->∀c∈cs,Zm3 c=true
 | [],j,cs,_,h=>by simp at h
 | b :: H,0,cs,he,h=>by
  simp at h;subst h
  simp only[ZjG,aT] at he
  exact(ZiF cs).1 he.1
 | b :: H,j+1,cs,he,h=>by
  refine ZtA H j cs ?_ (by simpa using h)
  cases b<;>simp_all [ZjG]
section
variable {R:RP} {w:World} {Hm:Zi}
def RP.weak (R:RP):RP:={ R with B0:=fun _=>False }
theorem RP.den_weak {x:D}{u:Value} (h:R.den w x u):R.weak.den w x u:=
 Zaf.change _ _ _ _ (fun _ _ h=>h) (fun _ _ h=>⟨h.1,fun h=>h⟩) (fun _ _ h=>h) (fun _ _ _=>rfl) (Nat.le_refl _) (fun _ h=>h.1) (fun _ h=>h.1) x u h
mutual
theorem RP.denV_weak:∀(v:V) (u:Value),Z5 R w v u->Z5 R.weak w v u
 | .d x,u,h=>RP.den_weak h
 | .bad,u,h=>trivial
 | .ptr b o,u,h=>h
 | .eptr b sz i k,u,h=>h
 | .sl b sz,u,h=>h
 | .slp b sz o len,u,h=>h
 | .nilsl sz,u,h=>h
 | .agg cs,u,h=>by
  obtain⟨us,h1,h2⟩:=h
  exact⟨us,h1,RP.denVs_weak cs us h2⟩
 | .tup cs,u,h=>by
  obtain⟨us,h1,h2⟩:=h
  exact⟨us,h1,RP.denVs_weak cs us h2⟩
 | .fn f cs,u,h=>by
  obtain⟨us,h1,h2⟩:=h
  exact⟨us,h1,RP.denVs_weak cs us h2⟩
 | .mp b,u,h=>h
 | .ch b,u,h=>h
theorem RP.denVs_weak:∀(vs:List V) (us:List Value),ZY R w vs us->ZY R.weak w vs us
 | [],us,h=>h
 | v :: vs,us,h=>by
  obtain⟨u,us',h1,h2,h3⟩:=h
  exact⟨u,us',h1,RP.denV_weak v u h2,RP.denVs_weak vs us' h3⟩
end
theorem ZD9 {x:D}{u:Value} (h:R.weak.den w x u):Zaf R.A1 (fun _=>True) (fun _=>True) w x u:=
 Zaf.change _ _ _ _ (fun _ _ h=>h) (fun _ _ h=>trivial) (fun _ _ h=>trivial) (fun _ _ _=>rfl) (Nat.le_refl _) (fun _ h=>h.1) (fun _ h=>h.1) x u h
mutual
theorem ZG7 (ok:R.OK w) (le:∀b blk,nth Hm b=some blk->blk ≠ .dead->nth R.H b=some blk) (n:Nat):∀(v:V) (y:D) (u:Value),fz Hm n v=some y->Z5 R.weak w v u->Zaf R.A1 (fun _=>True) (fun _=>True) w y u:=by
 intro v y u h hu
 cases n with
 | zero=>cases h
 | succ n=>
  simp only[fz] at h
  cases v<;>try (cases h;done)
  ·cases h
   exact ZD9 hu
  ·rename_i b o
   dsimp only at h
   cases hb:nth Hm b with
   | none=>rw[hb] at h;cases h
   | some blk=>
    rw[hb] at h
    cases blk<;>try (cases h;done)
    rename_i cs
    dsimp only at h
    cases hl:fzl (fz Hm n) (cs.drop o) with
    | none=>rw[hl] at h;cases h
    | some l=>
     rw[hl] at h
     cases h
     have hb':=le b _ hb (by simp)
     obtain⟨c,h1,rfl⟩:=hu
     rw[ZI] at hb'
     obtain⟨c',cs',el,fr',e1,e2,e3,e4,e5⟩:=ok.blk b _ _ hb' h1
     cases e1
     refine⟨c,o,rfl,trivial,ok.lt _ _ h1,?_⟩
     obtain⟨us,g1,g2⟩:=Zg8 (cs.drop o) (fun j v u=>cs'[o+j]? = some u/\Z5 R.weak w v u) (fun j v hj=>by
      obtain⟨u,p1,p2⟩:=e5 (o+j) v (by simpa using hj)
      exact⟨u,p1,RP.denV_weak v u p2⟩)
     have hds:=Zpf ok le n (cs.drop o) l us hl (Zj0 _ _ g1 fun j v u hv hu=>(g2 j v u hv hu).2)
     refine Zhj _ _ fun j x hj=>?_
     obtain⟨u,q1,q2⟩:=Zfd l us j x hds hj
     have hlt:j<(cs.drop o).length:=by rw[<- g1];exact(gQ q1).1
     exact⟨u,by rw[Za2 e2];exact(g2 j _ u (gE hlt) q1).1,q2⟩
  ·rename_i b sz
   dsimp only at h
   cases hb:nth Hm b with
   | none=>rw[hb] at h;cases h
   | some blk=>
    rw[hb] at h
    cases blk<;>try (cases h;done)
    rename_i sz' xs
    dsimp only at h
    cases hs:Nat.beq sz sz' with
    | false=>rw[hs] at h;cases h
    | true=>
     rw[hs] at h
     obtain rfl:=nQ hs
     simp only[cT,sJ] at h
     subst h
     have hb':=le b _ hb (by simp)
     obtain⟨_,m,h1,h2⟩:=hu
     have q4:=h2 xs hb'
     have q3:=ok.blk b _ _ (by rw[<- ZI];exact hb') h1
     have q5:=q4
     obtain⟨_,ad,cap,rfl,q6,q7⟩:=q5
     refine⟨_,_,_,rfl,rfl,q6,q3.2.1,fun hne=>?_⟩
     obtain⟨c,cs,el,fr',cap',rfl,e1,e2,e3,e4⟩:=Zem q4 (.inl (List.length_pos_iff.2 hne))
     cases e1
     refine⟨c,0*sz,sz,rfl,trivial,ok.lt _ _ h1,?_⟩
     have:=ZqN ok (A1':=R.A1) (A0':=fun _=>True) (AL':=fun _=>True) (fun _ h=>h) (l:=0) (n:=xs.length) q3 (by simpa using hne)
     simpa using this
  ·rename_i b sz of len
   dsimp only at h
   cases hb:nth Hm b with
   | none=>rw[hb] at h;cases h
   | some blk=>
    rw[hb] at h
    cases blk<;>try (cases h;done)
    rename_i sz' xs
    dsimp only at h
    cases hs:Nat.beq sz sz' with
    | false=>rw[hs] at h;cases h
    | true=>
     rw[hs] at h
     obtain rfl:=nQ hs
     simp only[cT,sJ] at h
     subst h
     have hb':=le b _ hb (by simp)
     obtain⟨_,m,h1,h2⟩:=hu
     have q4:=h2 xs hb'
     have q3:=ok.blk b _ _ (by rw[<- ZI];exact hb') h1
     have q5:=q4
     obtain⟨q8,ad,cap,rfl,q6,q7⟩:=q5
     have hlen:((xs.drop of).take len).length=len:=by simp only[length_take,length_drop];omega
     refine⟨_,_,_,rfl,hlen.symm,q6,fun x hx=>q3.2.1 x (List.mem_of_mem_drop (List.mem_of_mem_take hx)),fun hne=>?_⟩
     obtain⟨c,cs,el,fr',cap',rfl,e1,e2,e3,e4⟩:=Zem q4 (.inl (by rw[<- hlen];exact List.length_pos_iff.2 hne))
     cases e1
     exact⟨c,of*sz,sz,rfl,trivial,ok.lt _ _ h1,ZqN ok (fun _ h=>h) q3 hne⟩
  ·cases h
   obtain⟨ad,rfl⟩:=hu
   exact⟨_,_,_,rfl,rfl,Nat.le_refl _,by simp,by simp⟩
  ·rename_i cs
   dsimp only at h
   cases hl:fzl (fz Hm n) cs with
   | none=>rw[hl] at h;cases h
   | some l=>
    rw[hl] at h
    cases h
    obtain⟨us,rfl,h1⟩:=hu
    exact⟨us,rfl,Zpf ok le n cs l us hl h1⟩
  ·rename_i f cs
   dsimp only at h
   cases hl:fzl (fz Hm n) cs with
   | none=>rw[hl] at h;cases h
   | some l=>
    rw[hl] at h
    cases h
    obtain⟨us,rfl,h1⟩:=hu
    exact⟨us,rfl,Zpf ok le n cs l us hl h1⟩
termination_by (n,0)
theorem Zpf (ok:R.OK w) (le:∀b blk,nth Hm b=some blk->blk ≠ .dead->nth R.H b=some blk) (n:Nat):∀(vs:List V) (ys:List D) (us:List Value),fzl (fz Hm n) vs=some ys->ZY R.weak w vs us->Z6 R.A1 (fun _=>True) (fun _=>True) w ys us
 | [],ys,us,h,hu=>by
  simp only[fzl,sJ] at h
  subst h
  exact hu
 | v :: vs,ys,us,h,hu=>by
  simp only[fzl] at h
  cases h1:fz Hm n v with
  | none=>rw[h1] at h;cases h
  | some y=>
   cases h2:fzl (fz Hm n) vs with
   | none=>rw[h1,h2] at h;cases h
   | some l=>
    rw[h1,h2] at h
    simp only[sJ] at h
    subst h
    obtain⟨u,us',rfl,e1,e2⟩:=hu
    exact⟨u,us',rfl,ZG7 ok le n v y u h1 e1,Zpf ok le n vs l us' h2 e2⟩
termination_by vs=>(n,vs.length+1)
end
end
theorem Zvg:∀(L:List Nat) (b i j:Nat),idx L b i=some j->i<=j/\L[j-i]? = some b
 | [],b,i,j,h=>by cases h
 | a :: L,b,i,j,h=>by
  simp only[idx] at h
  cases hb:Nat.beq a b with
  | true=>
   rw[hb] at h
   simp only[cT,sJ] at h
   subst h
   obtain rfl:=nQ hb
   exact⟨Nat.le_refl _,by simp⟩
  | false=>
   rw[hb] at h
   simp only[cF] at h
   obtain⟨h1,h2⟩:=Zvg L b (i+1) j h
   refine⟨by omega,?_⟩
   have:j-i=(j-(i+1))+1:=by omega
   rw[this,List.getElem?_cons_succ]
   exact h2
theorem ZDw {L:List Nat}{b j:Nat} (h:idx L b 0=some j):L[j]? = some b:=by simpa using (Zvg L b 0 j h).2
theorem Zrb:∀(L:List Nat),Zn3 L=true->∀(i j b:Nat),L[i]? = some b->L[j]? = some b->i=j
 | [],_,i,j,b,h,_=>by simp at h
 | a :: L,h,i,j,b,hi,hj=>by
  simp only[Zn3,aT,Bool.not_eq_true'] at h
  have hn:b=a->∀k:Nat,L[k]? = some b->False:=fun e k hk=>by
   subst e
   have:=(Zsc L b).2 (mG hk)
   rw[this] at h;cases h.1
  cases i with
  | zero=>
   simp at hi
   cases j with
   | zero=>rfl
   | succ j=>exact(hn hi.symm j (by simpa using hj)).elim
  | succ i=>
   cases j with
   | zero=>
    simp at hj
    exact(hn hj.symm i (by simpa using hi)).elim
   | succ j=>rw[Zrb L h.2 i j b (by simpa using hi) (by simpa using hj)]
theorem ZqT (n:Nat):∀(L:List Nat),ZsC n L=true->∀b∈L,b<n
 | [],_,b,hb=>by cases hb
 | a :: L,h,b,hb=>by
  simp only[ZsC,aT] at h
  rcases List.mem_cons.1 hb with rfl | hb
  ·have:=h.1;simp[Nat.blt] at this;omega
  ·exact ZqT n L h.2 b hb
theorem Zrg (H:Zi) (ρ:Nat->Option Nat):∀(L:List Nat) (j:Nat),(pick H ρ L)[j]? = (L[j]?).map fun b=>match nth H b with | some blk=>ZhI ρ blk | none=>.dead
 | [],j=>by simp[pick]
 | b :: L,0=>by
  simp only[pick,List.getElem?_cons_zero,map_some]
  cases nth H b<;>rfl
 | b :: L,j+1=>by simp[pick,Zrg H ρ L j]
theorem Zjo (H:Zi):∀(bs l:List Nat) (b:Nat),b∈Zfw H l bs->b∈l∨ZN H b=true
 | [],l,b,h=>.inl h
 | a :: bs,l,b,h=>by
  simp only[Zfw] at h
  cases hc:(ZhC l a || !(ZN H a)) with
  | true=>rw[hc] at h;exact Zjo H bs l b h
  | false=>
   rw[hc] at h
   rcases Zjo H bs _ b h with h | h
   ·rcases List.mem_append.1 h with h | h
    ·exact .inl h
    ·simp only[mem_singleton] at h
     subst h
     simp only[Bool.or_eq_false_iff,Bool.not_eq_false'] at hc
     exact .inr hc.2
   ·exact .inr h
theorem ZgK (H:Zi):∀(bs l:List Nat),∃r,Zfw H l bs=l++r
 | [],l=>⟨[],by simp[Zfw]⟩
 | a :: bs,l=>by
  simp only[Zfw]
  cases hc:(ZhC l a || !(ZN H a)) with
  | true=>exact ZgK H bs l
  | false=>
   obtain⟨r,hr⟩:=ZgK H bs (l++[a])
   exact⟨a :: r,by simp only[cF];rw[hr];simp⟩
theorem ZrG (H:Zi):∀(n i:Nat) (l:List Nat) (b:Nat),b∈ZlY H n i l->b∈l∨ZN H b=true
 | 0,i,l,b,h=>.inl h
 | n+1,i,l,b,h=>by
  simp only[ZlY] at h
  split at h
  ·rcases ZrG H n (i+1) _ b h with h | h
   ·exact Zjo H _ l b h
   ·exact .inr h
  ·exact .inl h
theorem ZoP (H:Zi):∀(n i:Nat) (l:List Nat),∃r,ZlY H n i l=l++r
 | 0,i,l=>⟨[],by simp[ZlY]⟩
 | n+1,i,l=>by
  simp only[ZlY]
  split
  ·rename_i b hb
   obtain⟨r1,h1⟩:=ZgK H (Zx6 H b) l
   obtain⟨r2,h2⟩:=ZoP H n (i+1) (Zfw H l (Zx6 H b))
   exact⟨r1++r2,by rw[h2,h1];simp⟩
  ·exact⟨[],by simp⟩
theorem ZuS:∀(k i:Nat),i<k->(Zof k)[i]? = some i
 | 0,i,h=>by omega
 | k+1,i,h=>by
  have hl:∀k,(Zof k).length=k:=fun k=>by induction k<;>simp_all [Zof]
  simp only[Zof]
  by_cases hi:i<k
  ·rw[List.getElem?_append_left (by rw[hl];exact hi)]
   exact ZuS k i hi
  ·have:i=k:=by omega
   subst this
   rw[List.getElem?_append_right (by rw[hl];exact Nat.le_refl _),hl];simp
theorem ZCG (k:Nat):(Zof k).length=k:=by induction k<;>simp_all [Zof]
structure ZqX (k:Nat) (vs:List V) (H:Zi) (L:List Nat) (vs':List V) (H':Zi):Prop where
 nodup:∀(i j b:Nat),L[i]? = some b->L[j]? = some b->i=j
 lt:∀b∈L,b<H.length
 vs:vs'=Zii (fun b=>idx L b 0) vs
 h:H'=pick H (fun b=>idx L b 0) L
 pre:∀i,i<k->L[i]? = some i
 live:k=0->∀b∈L,ZN H b=true
theorem Zol {k:Nat}{vs:List V}{H:Zi}{L:List Nat}{vs':List V}{H':Zi} (h:extract k vs H=some (L,vs',H')):ZqX k vs H L vs' H':=by
 unfold extract at h
 dsimp only at h
 cases hc:(Zn3 (Zoy H k vs)&&ZsC H.length (Zoy H k vs)) with
 | false=>rw[hc] at h;cases h
 | true=>
  rw[hc] at h
  simp only[cT,sJ,pJ] at h
  obtain⟨rfl,rfl,rfl⟩:=h
  simp only[aT] at hc
  refine⟨Zrb _ hc.1,ZqT _ _ hc.2,rfl,rfl,fun i hi=>?_,fun hk b hb=>?_⟩
  ·unfold Zoy
   obtain⟨r1,h1⟩:=ZgK H (Zic vs) (Zof k)
   obtain⟨r2,h2⟩:=ZoP H (H.length+1) 0 (Zfw H (Zof k) (Zic vs))
   rw[h2,h1,List.append_assoc,List.getElem?_append_left (by rw[ZCG];exact hi)]
   exact ZuS k i hi
  ·subst hk
   rcases ZrG H _ _ _ b hb with h | h
   ·rcases Zjo H _ _ b h with h | h
    ·simp[Zof] at h
    ·exact h
   ·exact h
theorem Zok (H:Zi) (ρ:Nat->Option Nat):∀(L:List Nat),(pick H ρ L).length=L.length
 | []=>rfl
 | b :: L=>by simp[pick,Zok H ρ L]
end
section
def Zfh (P : Program) (f : Nat) : Bool := match P.funcs[f]? with | some fn => !(fn.name == "runtime.NumGoroutine") && fn.body.isSome | none => false
theorem ZhD {P:Program}{f:Nat}{args:Array Value}{w:World} (h:Zfh P f=true):(callFunc f args).run P w = .ok (.enter f args) w:=by
 unfold Zfh at h
 cases hf:P.funcs[f]? with
 | none=>rw[hf] at h;cases h
 | some fn=>
  rw[hf] at h
  simp only[aT,Bool.not_eq_true'] at h
  have h1 : ¬ fn.name = "runtime.NumGoroutine" := by simpa using h.1
  have h2:¬fn.body=none:=fun hb=>by rw[hb] at h;cases h.2
  simp[callFunc,hf,h1,h2]
def Ret (R:RP) (w:World) (v:V) (H':Zi) (u:Value) (w':World):Prop:=
 ∃R',Ext R w R' w'/\R'.OK w'/\R'.H=H'/\Z5 R' w' v u/\(∀i,H'.length<=i->R'.M i=none)/\R.H.length<=H'.length
def ZeF (P:Program) (G:Z1) (cf:Zac):Prop:=
 ∀(f:Nat) (args:List V) (H:Zi) (v:V) (H':Zi),cf f args H=some (v,H')->Zfh P f=true/\∀(R:RP) (w:World) (us:List Value),R.OK w->GOK G R w->R.H=H->(∀i,H.length<=i->R.M i=none)->ZY R w args us ->
  Calls P f us.toArray w fun e w'=>∃u,e = .returned u/\Ret R w v H' u w'
def RP.inner (R:RP):RP:={ B1:=fun c=>R.live c∨R.B1 c,B0:=fun _=>False,M:=fun _=>none,H:=[] }
section
variable {P:Program} {G:Z1} {R R0':RP} {w w':World}
theorem Zc4 (c:Nat):¬R.inner.live c:=by
 rintro ⟨i,h,_⟩
 simp[RP.inner,ZN,nth] at h
theorem Zso (ok:R.OK w):R.inner.OK w where
 b01:=fun c h=>h.elim
 al:=fun i blk h=>by simp[RP.inner] at h
 inj:=fun i j c h=>by simp[RP.inner,ZN,nth] at h
 lt:=fun i c h=>by cases h
 blk:=fun i m blk h=>by simp[RP.inner] at h
 nb:=fun i c h=>by simp[RP.inner,ZN,nth] at h
 bl:=fun c h=>by
  rcases h with⟨i,_,h⟩ | h
  ·exact ok.lt i c h
  ·exact ok.bl c h
theorem ZvF (b:Nat) (h:R.A1 b):R.inner.A1 b:=⟨Zc4 b,fun h'=>h'.elim h.1 h.2⟩
theorem ZpE (h:GOK G R w):GOK G R.inner w:=fun g l hg=>
 Zaf.change _ _ _ _ (fun b _ h=>ZvF b h) (fun b _ h=>⟨Zc4 b,fun h=>h⟩) (fun b _ _=>Zc4 b) (fun _ _ _=>rfl) (Nat.le_refl _) (fun _ h=>h.1) (fun _ h=>h.1) _ _ (h g l hg)
theorem ZsD {l:List D}{us:List Value} (h:Z6 R.A1 (fun _=>True) (fun _=>True) w l us):ZY R.inner w (ZbM l) us:=
 (ZcC l us).2 (Z6.change _ _ _ _ (fun b _ h=>ZvF b h) (fun b _ _=>⟨Zc4 b,fun h=>h⟩) (fun b _ _=>Zc4 b) (fun _ _ _=>rfl) (Nat.le_refl _) (fun _ _=>trivial) (fun _ _=>trivial) l us h)
theorem Ext.outer (x:Ext R.inner w R0' w'):Ext R w R w' where
 m:=fun _ _ h=>h
 h:=fun i x blk _ h hd=>⟨blk,h,Blk.like_refl hd⟩
 b1:=rfl
 b0:=rfl
 same:=fun b hb _=>x.same b hb (Zc4 b)
 row:=x.row
 grow:=x.grow
 liv:=fun _ _ h=>h
 os:=x.os
 tape:=x.tape
 output:=x.output
theorem RP.OK.outer (ok:R.OK w) (x:Ext R.inner w R0' w'):R.OK w':=
 ⟨ok.b01,ok.al,ok.inj,fun i c h=>lt_of_lt_of_le (ok.lt i c h) x.grow,fun i m blk h1 h2=>(Ext.outer x).blkOK ok.b01 (fun c hc=>x.same c (ok.lt i c (by rw[h2,hc])) (Zc4 c)) (ok.blk i m blk h1 h2),
  ok.nb,fun c h=>lt_of_lt_of_le (ok.bl c h) x.grow⟩
theorem ZDg {a:Act}{H1:Zi}{v:V}{u:Value}{x:D}{ks:List Nat} (ok:R.OK w) (x0:Ext R.inner w R0' w') (ok0:R0'.OK w') (g:GOK G R0' w') (hH:R0'.H=H1) (hv:Z5 R0' w' v u) (h:fr H1 6 v=some (x,ks)):R.den w' x u:=by
 have pre:Pre G R0' w' env0 a H1:=⟨ok0,g,fun t=>trivial,fun b blk hb _=>by rw[hH];exact hb⟩
 obtain⟨_,h2⟩:=Zmn 6 v x ks pre h (Zij.kill R0' ks) (fun _ h=>h) u hv
 refine Zaf.change _ _ _ _ (fun b hb h3=>?_) (fun _ _ h=>h) (fun _ _ h=>h) (fun _ _ _=>rfl) (Nat.le_refl _) (fun _ h=>h.1) (fun b h3=>?_) x u (h2 R.A0 R.AL)
 ·obtain⟨_,h4⟩:=h3
  rw[show({ R0' with H:=Zbc R0'.H (Zeg ks) }:RP).B1=R.inner.B1 from x0.b1] at h4
  exact⟨fun h=>h4 (.inl h),fun h=>h4 (.inr h)⟩
 ·obtain⟨_,h4⟩:=h3
  rw[show({ R0' with H:=Zbc R0'.H (Zeg ks) }:RP).B1=R.inner.B1 from x0.b1] at h4
  exact fun h=>h4 (.inl h)
def RP.news (R R0':RP) (nid n:Nat) (H':Zi):RP:={ R with M:=fun i=>if nid<=i/\i<nid+n then R0'.M (i-nid) else R.M i,H:=H' }
theorem Zzh {nid:Nat}{H1 H':Zi}{v:V}{u:Value} (ok:R.OK w) (x:Ext R.inner w R0' w') (ok0:R0'.OK w') (hH:R0'.H=H1) (hv:Z5 R0' w' v u) (h0:∀i,H1.length<=i->R0'.M i=none) (he:ZsG v=true) (heB:Zm8 H1=true)
  (hn:∀i,nid<=i->i<nid+H1.length->R.M i=none) (hp:ZK R.H [] nid (H1.map (ZhI fun j=>some (nid+j))) H') :
  Post R w nid H1.length H' (ZnA (fun j=>some (nid+j)) v) u w':=by
 let R':=RP.news R R0' nid H1.length H'
 have hMi:∀i,(nid<=i/\i<nid+H1.length)->R'.M i=R0'.M (i-nid):=fun i hi=>if_pos hi
 have hMo:∀i,¬(nid<=i/\i<nid+H1.length)->R'.M i=R.M i:=fun i hi=>if_neg hi
 have hHi:∀i,(nid<=i/\i<nid+H1.length)->H'[i]? = (H1[i-nid]?).map (ZhI fun j=>some (nid+j)):=fun i hi=>by
  rw[hp i,if_pos (by simpa using hi),List.getElem?_map]
 have hHo:∀i,¬(nid<=i/\i<nid+H1.length)->H'[i]? = R.H[i]?:=fun i hi=>by
  rw[hp i,if_neg (by simpa using hi)];rfl
 have liveI:∀i,(nid<=i/\i<nid+H1.length)->ZN H' i=true->ZN R0'.H (i-nid)=true:=fun i hi hl=>by
  obtain⟨blk,g1,g2⟩:=Zm.1 hl
  rw[hHi i hi] at g1
  cases hb:H1[i-nid]? with
  | none=>rw[hb] at g1;cases g1
  | some b0=>
   rw[hb] at g1
   simp only[map_some,sJ] at g1
   exact Zm.2 ⟨b0,by rw[hH];exact hb,fun e=>g2 (by rw[<- g1,Ze3];exact e)⟩
 have liveO:∀i,¬(nid<=i/\i<nid+H1.length)->ZN H' i=true->ZN R.H i=true:=fun i hi hl=>by
  obtain⟨blk,g1,g2⟩:=Zm.1 hl
  exact Zm.2 ⟨blk,by rw[<- hHo i hi];exact g1,g2⟩
 have fresh:∀i c,ZN R0'.H i=true->R0'.M i=some (some c)->w.heap.size<=c:=fun i c hl hm=>by
  rcases lt_or_ge c w.heap.size with h | h
  ·exact(Zc4 c (x.liv c h ⟨i,hl,hm⟩)).elim
  ·exact h
 have e:Ext R w R' w':=by
  refine⟨?_,?_,rfl,rfl,fun b hb _=>x.same b hb (Zc4 b),x.row,x.grow,?_,x.os,x.tape,x.output⟩
  ·intro i m hm
   have:¬(nid<=i/\i<nid+H1.length):=fun h=>by rw[hn i h.1 h.2] at hm;cases hm
   rw[hMo i this];exact hm
  ·intro i m blk hm hi hd
   have:¬(nid<=i/\i<nid+H1.length):=fun h=>by rw[hn i h.1 h.2] at hm;cases hm
   exact⟨blk,by rw[<- hHo i this];exact hi,Blk.like_refl hd⟩
  ·rintro c hc ⟨i,g1,g2⟩
   by_cases hi:nid<=i/\i<nid+H1.length
   ·rw[hMi i hi] at g2
    have:=fresh _ c (liveI i hi g1) g2
    omega
   ·rw[hMo i hi] at g2
    exact⟨i,liveO i hi g1,g2⟩
 have hr:Ren R0' R' (fun j=>some (nid+j)):=by
  have inr:∀b m,R0'.M b=some m->(nid<=nid+b/\nid+b<nid+H1.length):=fun b m hm=>by
   rcases lt_or_ge b H1.length with h | h
   ·omega
   ·rw[h0 b h] at hm;cases hm
  refine⟨?_,?_⟩
  ·intro b j m hj hm
   cases hj
   rw[hMi _ (inr b m hm),Nat.add_sub_cancel_left];exact hm
  ·intro b j m blk hj hm hb hd
   cases hj
   have hb':H'[nid+b]? = some blk:=hb
   rw[hHi _ (inr b m hm),Nat.add_sub_cancel_left] at hb'
   cases hb0:H1[b]? with
   | none=>rw[hb0] at hb';cases hb'
   | some b0=>
    rw[hb0] at hb'
    simp only[map_some,sJ] at hb'
    subst hb'
    refine⟨b0,by rw[hH];exact hb0,?_⟩
    rw[Zh3]
    exact Blk.like_refl fun e=>hd (by rw[Ze3];exact e)
 have a1:∀b,R0'.A1 b->R'.A1 b:=fun b ⟨q1,q2⟩=>by
  rw[x.b1] at q2
  refine⟨?_,fun h=>q2 (.inr h)⟩
  rintro ⟨i,g1,g2⟩
  by_cases hi:nid<=i/\i<nid+H1.length
  ·rw[hMi i hi] at g2
   exact q1 ⟨_,liveI i hi g1,g2⟩
  ·rw[hMo i hi] at g2
   exact q2 (.inl ⟨i,liveO i hi g1,g2⟩)
 have hesc:∀y u,y.esc=true->R0'.den w' y u->R'.den w' y u:=fun y u hy h=>Zaf.lift a1 y u hy h
 have hd:∀y u,ZsG (.d y)=true->R0'.den w' y u->R'.den w' y u:=fun y u hy h=>by
  cases y with
  | tup ts=>
   obtain⟨us,h1,h2⟩:=h
   exact⟨us,h1,Z6.liftT a1 ts us hy h2⟩
  | _=>exact hesc _ u hy h
 refine⟨R',e,⟨ok.b01,?_,?_,?_,?_,?_,fun c h=>lt_of_lt_of_le (ok.bl c h) x.grow⟩,rfl,ZqH hr Zrf hd v u he hv,fun i h hni=>by rw[hMo i hni];exact h⟩
 ·intro i blk hb hdd
  by_cases hi:nid<=i/\i<nid+H1.length
  ·have hb':H'[i]? = some blk:=hb
   rw[hHi i hi] at hb'
   cases hb0:H1[i-nid]? with
   | none=>rw[hb0] at hb';cases hb'
   | some b0=>
    rw[hb0] at hb'
    simp only[map_some,sJ] at hb'
    subst hb'
    obtain⟨m,hm⟩:=ok0.al (i-nid) b0 (by rw[hH];exact hb0) (fun e=>hdd (by rw[Ze3];exact e))
    exact⟨m,by rw[hMi i hi];exact hm⟩
  ·obtain⟨m,hm⟩:=ok.al i blk (by rw[<- hHo i hi];exact hb) hdd
   exact⟨m,by rw[hMo i hi];exact hm⟩
 ·intro i j c hli hlj g1 g2
  by_cases hi:nid<=i/\i<nid+H1.length<;>by_cases hj:nid<=j/\j<nid+H1.length
  ·rw[hMi i hi] at g1;rw[hMi j hj] at g2
   have:=ok0.inj _ _ c (liveI i hi hli) (liveI j hj hlj) g1 g2
   omega
  ·rw[hMi i hi] at g1;rw[hMo j hj] at g2
   have h1:=fresh _ c (liveI i hi hli) g1
   have h2:=ok.lt j c g2
   omega
  ·rw[hMo i hi] at g1;rw[hMi j hj] at g2
   have h1:=fresh _ c (liveI j hj hlj) g2
   have h2:=ok.lt i c g1
   omega
  ·rw[hMo i hi] at g1;rw[hMo j hj] at g2
   exact ok.inj i j c (liveO i hi hli) (liveO j hj hlj) g1 g2
 ·intro i c hc
  by_cases hi:nid<=i/\i<nid+H1.length
  ·rw[hMi i hi] at hc;exact ok0.lt _ c hc
  ·rw[hMo i hi] at hc;exact lt_of_lt_of_le (ok.lt i c hc) x.grow
 ·intro i m blk hb hm
  by_cases hi:nid<=i/\i<nid+H1.length
  ·have hb':H'[i]? = some blk:=hb
   rw[hHi i hi] at hb'
   rw[hMi i hi] at hm
   cases hb0:H1[i-nid]? with
   | none=>rw[hb0] at hb';cases hb'
   | some b0=>
    rw[hb0] at hb'
    simp only[map_some,sJ] at hb'
    subst hb'
    exact ZqM hr Zrf hd hesc (fun cs hcs=>by subst hcs;exact ZvZ H1 _ cs heB hb0) (ok0.blk (i-nid) m b0 (by rw[hH];exact hb0) hm)
  ·rw[hMo i hi] at hm
   exact e.blkOK ok.b01 (fun c hc=>x.same c (ok.lt i c (by rw[hm,hc])) (Zc4 c)) (ok.blk i m blk (by rw[<- hHo i hi];exact hb) hm)
 ·intro i c hl hc hb1
  by_cases hi:nid<=i/\i<nid+H1.length
  ·rw[hMi i hi] at hc
   refine ok0.nb _ c (liveI i hi hl) hc ?_
   rw[x.b1];exact .inr hb1
  ·rw[hMo i hi] at hc
   exact ok.nb i c (liveO i hi hl) hc hb1
end
end
section
def ZcK (R:RP) (L:List Nat):Nat->Option (Option Nat):=fun j=>match L[j]? with | some b=>R.M b | none=>none
def ZqW (R:RP) (L:List Nat) (H0:Zi) (c:Nat):Prop:=∃j,ZN H0 j=true/\ZcK R L j=some (some c)
def RP.hand (R:RP) (L:List Nat) (H0:Zi):RP:={ B1:=fun c=>(R.live c/\¬ZqW R L H0 c)∨R.B1 c,B0:=fun c=>(R.live c/\¬ZqW R L H0 c)∨R.B0 c,M:=ZcK R L,H:=H0 }
theorem Zu9:∀(L:List Nat) (bs:List Blk) (H:Zi),(∀(i j b:Nat),L[i]? = some b->L[j]? = some b->i=j)->(∀(j b:Nat) blk,L[j]? = some b->bs[j]? = some blk->b<H.length->(Zbc H (L.zip bs))[b]? = some blk)/\(∀b,b∉L->(Zbc H (L.zip bs))[b]? = H[b]?)
 | [],bs,H,_=>⟨fun j b blk h=>by simp at h,fun b _=>by simp[Zbc]⟩
 | a :: L,[],H,_=>⟨fun j b blk _ h=>by simp at h,fun b _=>by simp[Zbc]⟩
 | a :: L,x :: bs,H,hn=>by
  have hn':∀(i j b:Nat),L[i]? = some b->L[j]? = some b->i=j:=fun i j b h1 h2=>by
   have:=hn (i+1) (j+1) b (by simpa using h1) (by simpa using h2)
   omega
  have haL:a∉L:=fun h=>by
   obtain⟨j,hj⟩:=List.mem_iff_getElem?.1 h
   have:=hn 0 (j+1) a (by simp) (by simpa using hj)
   omega
  obtain⟨h1,h2⟩:=Zu9 L bs (ZbL H a x) hn'
  refine⟨fun j b blk hj hb hlt=>?_,fun b hb=>?_⟩
  ·cases j with
   | zero=>
    simp at hj hb
    subst hj;subst hb
    show(Zbc (ZbL H a x) (L.zip bs))[a]? = some x
    rw[h2 a haL,Zah,List.getElem?_set,if_pos rfl,if_pos hlt]
   | succ j=>
    exact h1 j b blk (by simpa using hj) (by simpa using hb) (by rw[Zah,length_set];exact hlt)
  ·show(Zbc (ZbL H a x) (L.zip bs))[b]? = H[b]?
   rw[h2 b (fun h=>hb (mem_cons_of_mem _ h)),Zah,List.getElem?_set,if_neg (fun h=>hb (by rw[h];exact mem_cons_self))]
section
variable {P:Program} {G:Z1} {R R0':RP} {w w':World} {Hm H0:Zi} {L:List Nat} {args args':List V}
theorem ZeK (hL:ZqX 0 args Hm L args' H0) {j:Nat}{blk:Blk} (h:H0[j]? = some blk) (hd:blk ≠ .dead):∃b blk0,L[j]? = some b/\nth Hm b=some blk0/\blk0 ≠ .dead/\blk=ZhI (fun b=>idx L b 0) blk0:=by
 rw[hL.h,Zrg] at h
 cases hb:L[j]? with
 | none=>rw[hb] at h;cases h
 | some b=>
  rw[hb] at h
  simp only[map_some,sJ] at h
  split at h
  ·rename_i blk0 h0
   exact⟨b,blk0,rfl,h0,fun e=>hd (by rw[<- h,Ze3];exact e),h.symm⟩
  ·exact absurd h.symm hd
theorem Za6 {j b:Nat} (h:L[j]? = some b):ZcK R L j=R.M b:=by simp[ZcK,h]
variable (le:∀b blk,nth Hm b=some blk->blk ≠ .dead->nth R.H b=some blk)
include le
theorem ZjS (hL:ZqX 0 args Hm L args' H0) (c:Nat) (h:ZqW R L H0 c):R.live c:=by
 obtain⟨j,h1,h2⟩:=h
 obtain⟨blk,g1,g2⟩:=Zm.1 h1
 obtain⟨b,blk0,e1,e2,e3,e4⟩:=ZeK hL g1 g2
 rw[Za6 e1] at h2
 exact⟨b,Zm.2 ⟨blk0,by rw[<- ZI];exact le b blk0 e2 e3,e3⟩,h2⟩
theorem Zu7 (hL:ZqX 0 args Hm L args' H0):Ren R (R.hand L H0) (fun b=>idx L b 0) where
 m:=fun b j x hj hm=>by
  show ZcK R L j=some x
  rw[Za6 (ZDw hj)];exact hm
 h:=fun b j x blk hj hm hb hd=>by
  obtain⟨b',blk0,e1,e2,e3,e4⟩:=ZeK hL hb hd
  rw[ZDw hj] at e1;cases e1
  refine⟨blk0,by rw[<- ZI];exact le b blk0 e2 e3,?_⟩
  rw[e4,Zh3]
  exact Blk.like_refl e3
theorem Zoo (hL:ZqX 0 args Hm L args' H0) {x:D}{u:Value} (h:R.den w x u):(R.hand L H0).den w x u:=by
 refine Zaf.change _ _ _ _ (fun b _ h=>⟨fun hl=>h.1 (ZjS le hL b hl),?_⟩) (fun b _ h=>⟨fun hl=>h.1 (ZjS le hL b hl),?_⟩) (fun b _ h hl=>h (ZjS le hL b hl)) (fun _ _ _=>rfl) (Nat.le_refl _) (fun _ h=>h.1) (fun _ h=>h.1) x u h
 ·rintro (h' | h')
  ·exact h.1 h'.1
  ·exact h.2 h'
 ·rintro (h' | h')
  ·exact h.1 h'.1
  ·exact h.2 h'
theorem ZDV (ok:R.OK w) (hL:ZqX 0 args Hm L args' H0):(R.hand L H0).OK w where
 b01:=fun c h=>by
  rcases h with h | h
  ·exact .inl h
  ·exact .inr (ok.b01 c h)
 al:=fun j blk h hd=>by
  obtain⟨b,blk0,e1,e2,e3,e4⟩:=ZeK hL h hd
  obtain⟨m,hm⟩:=ok.al b blk0 (by rw[<- ZI];exact le b blk0 e2 e3) e3
  exact⟨m,by show ZcK R L j=some m;rw[Za6 e1];exact hm⟩
 inj:=fun i j c hi hj h1 h2=>by
  obtain⟨bi,g1,g2⟩:=Zm.1 hi
  obtain⟨bj,g3,g4⟩:=Zm.1 hj
  obtain⟨b,blk0,e1,e2,e3,e4⟩:=ZeK hL g1 g2
  obtain⟨b',blk0',f1,f2,f3,f4⟩:=ZeK hL g3 g4
  have h1':ZcK R L i=some (some c):=h1
  have h2':ZcK R L j=some (some c):=h2
  rw[Za6 e1] at h1'
  rw[Za6 f1] at h2'
  have:=ok.inj b b' c (Zm.2 ⟨blk0,by rw[<- ZI];exact le b blk0 e2 e3,e3⟩) (Zm.2 ⟨blk0',by rw[<- ZI];exact le b' blk0' f2 f3,f3⟩) h1' h2'
  subst this
  exact hL.nodup i j b e1 f1
 lt:=fun j c h=>by
  have h':ZcK R L j=some (some c):=h
  unfold ZcK at h'
  split at h'
  ·exact ok.lt _ c h'
  ·cases h'
 blk:=fun j m blk h hm=>by
  by_cases hd:blk = .dead
  ·subst hd;trivial
  ·obtain⟨b,blk0,e1,e2,e3,e4⟩:=ZeK hL h hd
   have hm':ZcK R L j=some m:=hm
   rw[Za6 e1] at hm'
   subst e4
   exact ZqM (Zu7 le hL) Zjq (fun x u _ h=>Zoo le hL h) (fun x u _ h=>Zoo le hL h) (fun _ _ _ _=>trivial) (ok.blk b m blk0 (by rw[<- ZI];exact le b blk0 e2 e3) hm')
 nb:=fun j c hl hm h=>by
  have hm':ZcK R L j=some (some c):=hm
  rcases h with h | h
  ·exact h.2 ⟨j,hl,hm'⟩
  ·obtain⟨blk,g1,g2⟩:=Zm.1 hl
   obtain⟨b,blk0,e1,e2,e3,e4⟩:=ZeK hL g1 g2
   rw[Za6 e1] at hm'
   exact ok.nb b c (Zm.2 ⟨blk0,by rw[<- ZI];exact le b blk0 e2 e3,e3⟩) hm' h
 bl:=fun c h=>by
  rcases h with⟨⟨i,_,h⟩,_⟩ | h
  ·exact ok.lt i c h
  ·exact ok.bl c h
theorem ZyT {nid:Nat}{H1 H':Zi}{v:V}{u:Value} (ok:R.OK w) (hL:ZqX 0 args Hm L args' H0) (x:Ext (R.hand L H0) w R0' w') (ok0:R0'.OK w') (hH:R0'.H=H1) (hv:Z5 R0' w' v u) (h0:∀i,H1.length<=i->R0'.M i=none)
  (hlen:H0.length<=H1.length) (he:Zm3 v=true) (heB:ZjG H1=true) (back:Nat->Option Nat) (hback:back=fun j=>match nth L j with | some b=>some b | none=>some (nid+(j-L.length)))
  (hn:∀i,nid<=i->i<nid+(H1.length-L.length)->R.M i=none) (hp:ZK R.H (L.zip (H1.map (ZhI back))) nid ((H1.drop L.length).map (ZhI back)) H') :
  Post R w nid (H1.length-L.length) H' (ZnA back v) u w':=by
 have hl0:H0.length=L.length:=by rw[hL.h,Zok]
 rw[hl0] at hlen
 let R':RP:={ R with M:=fun i=>if nid<=i/\i<nid+(H1.length-L.length) then R0'.M (L.length+(i-nid)) else R.M i,H:=H' }
 have hLl:∀j b,L[j]? = some b->∃blk m,R.H[b]? = some blk/\blk ≠ .dead/\nth Hm b=some blk/\R.M b=some m:=fun j b hj=>by
  have:=hL.live rfl b (mG hj)
  obtain⟨blk,g1,g2⟩:=Zm.1 this
  rw[<- ZI] at g1
  have g3:=le b blk g1 g2
  rw[ZI] at g3
  obtain⟨m,hm⟩:=ok.al b blk g3 g2
  exact⟨blk,m,g3,g2,g1,hm⟩
 let Src:Nat->Nat->Prop:=fun i s=>((nid<=i/\i<nid+(H1.length-L.length))/\s=L.length+(i-nid))∨(¬(nid<=i/\i<nid+(H1.length-L.length))/\L[s]? = some i)
 have hLin:∀j b,L[j]? = some b->¬(nid<=b/\b<nid+(H1.length-L.length)):=fun j b hj h=>by
  obtain⟨_,m,_,_,_,hm⟩:=hLl j b hj
  rw[hn b h.1 h.2] at hm;cases hm
 obtain⟨z1,z2⟩:=Zu9 L (H1.map (ZhI back)) R.H hL.nodup
 have F1:∀i s blk,Src i s->H'[i]? = some blk->∃b0,H1[s]? = some b0/\blk=ZhI back b0:=fun i s blk hs hi=>by
  rcases hs with⟨h1,rfl⟩ | ⟨h1,h2⟩
  ·rw[hp i,if_pos (by simpa using h1),List.getElem?_map,List.getElem?_drop] at hi
   cases hb:H1[L.length+(i-nid)]? with
   | none=>rw[hb] at hi;cases hi
   | some b0=>
    rw[hb] at hi
    simp only[map_some,sJ] at hi
    exact⟨b0,rfl,hi.symm⟩
  ·rw[hp i,if_neg (by simpa using h1)] at hi
   have hsl:s<L.length:=(gQ h2).1
   have hs1:H1[s]? = some H1[s]:=gE (by omega)
   obtain⟨blk0,_,q1,_⟩:=hLl s i h2
   rw[z1 s i (ZhI back H1[s]) h2 (by rw[List.getElem?_map,hs1];rfl) (gQ q1).1] at hi
   exact⟨_,hs1,(Option.some.inj hi).symm⟩
 have F2:∀i s,Src i s->R'.M i=R0'.M s:=fun i s hs=>by
  rcases hs with⟨h1,rfl⟩ | ⟨h1,h2⟩
  ·exact if_pos h1
  ·obtain⟨_,m,_,_,_,hm⟩:=hLl s i h2
   have e1:R'.M i=R.M i:=if_neg h1
   rw[e1,hm]
   exact(x.m s m (by show ZcK R L s=some m;rw[Za6 h2];exact hm)).symm
 have F3:∀i,(∀s,¬Src i s)->H'[i]? = R.H[i]? /\ R'.M i=R.M i/\i∉L:=fun i hs=>by
  have h1:¬(nid<=i/\i<nid+(H1.length-L.length)):=fun h=>hs _ (.inl ⟨h,rfl⟩)
  have h2:i∉L:=fun h=>by
   obtain⟨s,hs'⟩:=List.mem_iff_getElem?.1 h
   exact hs s (.inr ⟨h1,hs'⟩)
  refine⟨?_,if_neg h1,h2⟩
  rw[hp i,if_neg (by simpa using h1),z2 i h2]
 have F4:∀i i' s,Src i s->Src i' s->i=i':=fun i i' s h h'=>by
  rcases h with⟨h1,h2⟩ | ⟨h1,h2⟩<;>rcases h' with⟨h3,h4⟩ | ⟨h3,h4⟩
  ·omega
  ·have:=(gQ h4).1;omega
  ·have:=(gQ h2).1;omega
  ·rw[h2] at h4;cases h4;rfl
 have F5:∀b m,R0'.M b=some m->∃i,back b=some i/\Src i b:=fun b m hm=>by
  have hb:b<H1.length:=by
   rcases lt_or_ge b H1.length with h | h
   ·exact h
   ·rw[h0 b h] at hm;cases hm
  rw[hback]
  dsimp only
  rw[ZI]
  by_cases hbl:b<L.length
  ·rw[gE hbl]
   exact⟨_,rfl,.inr ⟨hLin b _ (gE hbl),gE hbl⟩⟩
  ·rw[List.getElem?_eq_none (by omega)]
   exact⟨_,rfl,.inl ⟨by omega,by omega⟩⟩
 have liveS:∀i s,Src i s->ZN H' i=true->ZN R0'.H s=true:=fun i s hs hl=>by
  obtain⟨blk,g1,g2⟩:=Zm.1 hl
  obtain⟨b0,e1,e2⟩:=F1 i s blk hs g1
  exact Zm.2 ⟨b0,by rw[hH];exact e1,fun e=>g2 (by rw[e2,Ze3];exact e)⟩
 have liveN:∀i,(∀s,¬Src i s)->ZN H' i=true->ZN R.H i=true:=fun i hs hl=>by
  obtain⟨blk,g1,g2⟩:=Zm.1 hl
  exact Zm.2 ⟨blk,by rw[<- (F3 i hs).1];exact g1,g2⟩
 have old:∀s c,ZN R0'.H s=true->R0'.M s=some (some c)->c<w.heap.size->ZqW R L H0 c:=fun s c hl hm hc=>x.liv c hc ⟨s,hl,hm⟩
 have e:Ext R w R' w':=by
  refine⟨?_,?_,rfl,rfl,fun b hb hnl=>x.same b hb (fun h=>hnl (ZjS le hL b h)),x.row,x.grow,?_,x.os,x.tape,x.output⟩
  ·intro i m hm
   have:¬(nid<=i/\i<nid+(H1.length-L.length)):=fun h=>by rw[hn i h.1 h.2] at hm;cases hm
   exact(if_neg this).trans hm
  ·intro i m blk hm hi hd
   by_cases hs:∃s,Src i s
   ·obtain⟨s,hs⟩:=hs
    rcases hs with⟨h1,_⟩ | ⟨h1,h2⟩
    ·rw[hn i h1.1 h1.2] at hm;cases hm
    ·obtain⟨b0,e1,e2⟩:=F1 i s blk (.inr ⟨h1,h2⟩) hi
     have hb0:b0 ≠ .dead:=fun e=>hd (by rw[e2,Ze3];exact e)
     obtain⟨blk1,g1,g2⟩:=x.h s m b0 (by show ZcK R L s=some m;rw[Za6 h2];exact hm) (by rw[hH];exact e1) hb0
     obtain⟨b',blk0,f1,f2,f3,f4⟩:=ZeK hL (show H0[s]? = some blk1 from g1) (Blk.like_ne g2)
     rw[h2] at f1;cases f1
     have f5:=le i blk0 f2 f3
     rw[ZI] at f5
     refine⟨blk0,f5,?_⟩
     rw[e2,Zh3]
     rw[f4,ZyZ] at g2
     exact g2
   ·exact⟨blk,by rw[<- (F3 i (fun s h=>hs ⟨s,h⟩)).1];exact hi,Blk.like_refl hd⟩
  ·rintro c hc ⟨i,g1,g2⟩
   by_cases hs:∃s,Src i s
   ·obtain⟨s,hs⟩:=hs
    rw[F2 i s hs] at g2
    exact ZjS le hL c (old s c (liveS i s hs g1) g2 hc)
   ·have hs':∀s,¬Src i s:=fun s h=>hs ⟨s,h⟩
    rw[(F3 i hs').2.1] at g2
    exact⟨i,liveN i hs' g1,g2⟩
 have hr:Ren R0' R' back:=by
  refine⟨?_,?_⟩
  ·intro b j m hj hm
   obtain⟨i,e1,e2⟩:=F5 b m hm
   rw[e1] at hj;cases hj
   rw[F2 _ b e2];exact hm
  ·intro b j m blk hj hm hb hd
   obtain⟨i,e1,e2⟩:=F5 b m hm
   rw[e1] at hj;cases hj
   obtain⟨b0,f1,f2⟩:=F1 _ b blk e2 hb
   refine⟨b0,by rw[hH];exact f1,?_⟩
   rw[f2,Zh3]
   exact Blk.like_refl fun e=>hd (by rw[f2,Ze3];exact e)
 have nl:∀c,¬R0'.live c->¬(R.live c/\¬ZqW R L H0 c)->¬R'.live c:=by
  rintro c q1 q2 ⟨i,g1,g2⟩
  by_cases hs:∃s,Src i s
  ·obtain⟨s,hs⟩:=hs
   rw[F2 i s hs] at g2
   exact q1 ⟨s,liveS i s hs g1,g2⟩
  ·have hs':∀s,¬Src i s:=fun s h=>hs ⟨s,h⟩
   rw[(F3 i hs').2.1] at g2
   have hli:=liveN i hs' g1
   refine q2 ⟨⟨i,hli,g2⟩,?_⟩
   rintro ⟨j,h1,h2⟩
   obtain⟨blk,p1,p2⟩:=Zm.1 h1
   obtain⟨b,blk0,f1,f2,f3,f4⟩:=ZeK hL p1 p2
   rw[Za6 f1] at h2
   have:=ok.inj i b c hli (Zm.2 ⟨blk0,by rw[<- ZI];exact le b blk0 f2 f3,f3⟩) g2 h2
   subst this
   exact(F3 i hs').2.2 (mG f1)
 have a1:∀b,R0'.A1 b->R'.A1 b:=fun b ⟨q1,q2⟩=>by
  rw[x.b1] at q2
  exact⟨nl b q1 (fun h=>q2 (.inl h)),fun h=>q2 (.inr h)⟩
 have a0:∀b,R0'.A0 b->R'.A0 b:=fun b ⟨q1,q2⟩=>by
  rw[x.b0] at q2
  exact⟨nl b q1 (fun h=>q2 (.inl h)),fun h=>q2 (.inr h)⟩
 have hesc:∀y u,y.esc=true->R0'.den w' y u->R'.den w' y u:=fun y u hy h=>Zaf.lift a1 y u hy h
 have hd:∀y u,Zm3 (.d y)=true->R0'.den w' y u->R'.den w' y u:=fun y u hy h=>Zaf.nofn a1 a0 y u hy h
 refine⟨R',e,⟨ok.b01,?_,?_,?_,?_,?_,fun c h=>lt_of_lt_of_le (ok.bl c h) x.grow⟩,rfl,ZqH hr Zp6 hd v u he hv,fun i h hni=>(if_neg hni).trans h⟩
 ·intro i blk hb hdd
  by_cases hs:∃s,Src i s
  ·obtain⟨s,hs⟩:=hs
   obtain⟨b0,e1,e2⟩:=F1 i s blk hs hb
   obtain⟨m,hm⟩:=ok0.al s b0 (by rw[hH];exact e1) (fun e=>hdd (by rw[e2,Ze3];exact e))
   exact⟨m,(F2 i s hs).trans hm⟩
  ·have hs':∀s,¬Src i s:=fun s h=>hs ⟨s,h⟩
   obtain⟨m,hm⟩:=ok.al i blk (by rw[<- (F3 i hs').1];exact hb) hdd
   exact⟨m,(F3 i hs').2.1.trans hm⟩
 ·intro i j c hli hlj g1 g2
  have mixed:∀i s j,Src i s->(∀s,¬Src j s)->ZN H' i=true->ZN H' j=true->R'.M i=some (some c)->R'.M j=some (some c)->False:=by
   intro i s j hs hj hli hlj g1 g2
   rw[F2 i s hs] at g1
   rw[(F3 j hj).2.1] at g2
   have hc:=ok.lt j c g2
   obtain⟨k,h1,h2⟩:=old s c (liveS i s hs hli) g1 hc
   obtain⟨blk,p1,p2⟩:=Zm.1 h1
   obtain⟨b,blk0,f1,f2,f3,f4⟩:=ZeK hL p1 p2
   rw[Za6 f1] at h2
   have:=ok.inj j b c (liveN j hj hlj) (Zm.2 ⟨blk0,by rw[<- ZI];exact le b blk0 f2 f3,f3⟩) g2 h2
   subst this
   exact(F3 j hj).2.2 (mG f1)
  by_cases hi:∃s,Src i s<;>by_cases hj:∃s,Src j s
  ·obtain⟨s,hs⟩:=hi
   obtain⟨s',hs'⟩:=hj
   have g1':=g1
   have g2':=g2
   rw[F2 i s hs] at g1'
   rw[F2 j s' hs'] at g2'
   have:=ok0.inj s s' c (liveS i s hs hli) (liveS j s' hs' hlj) g1' g2'
   subst this
   exact F4 i j s hs hs'
  ·obtain⟨s,hs⟩:=hi
   exact(mixed i s j hs (fun s h=>hj ⟨s,h⟩) hli hlj g1 g2).elim
  ·obtain⟨s,hs⟩:=hj
   exact(mixed j s i hs (fun s h=>hi ⟨s,h⟩) hlj hli g2 g1).elim
  ·have hi':∀s,¬Src i s:=fun s h=>hi ⟨s,h⟩
   have hj':∀s,¬Src j s:=fun s h=>hj ⟨s,h⟩
   rw[(F3 i hi').2.1] at g1
   rw[(F3 j hj').2.1] at g2
   exact ok.inj i j c (liveN i hi' hli) (liveN j hj' hlj) g1 g2
 ·intro i c hc
  by_cases hs:∃s,Src i s
  ·obtain⟨s,hs⟩:=hs
   rw[F2 i s hs] at hc;exact ok0.lt s c hc
  ·rw[(F3 i (fun s h=>hs ⟨s,h⟩)).2.1] at hc
   exact lt_of_lt_of_le (ok.lt i c hc) x.grow
 ·intro i m blk hb hm
  by_cases hdd:blk = .dead
  ·subst hdd;trivial
  ·by_cases hs:∃s,Src i s
   ·obtain⟨s,hs⟩:=hs
    obtain⟨b0,e1,e2⟩:=F1 i s blk hs hb
    rw[F2 i s hs] at hm
    subst e2
    exact ZqM hr Zp6 hd hesc (fun cs hcs=>by subst hcs;exact ZtA H1 _ cs heB e1) (ok0.blk s m b0 (by rw[hH];exact e1) hm)
   ·have hs':∀s,¬Src i s:=fun s h=>hs ⟨s,h⟩
    obtain⟨f1,f2,f3⟩:=F3 i hs'
    rw[f2] at hm
    have hb':R.H[i]? = some blk:=by rw[<- f1];exact hb
    refine e.blkOK ok.b01 (fun c hc=>x.same c (ok.lt i c (by rw[hm,hc])) ?_) (ok.blk i m blk hb' hm)
    rintro ⟨k,h1,h2⟩
    obtain⟨blk1,p1,p2⟩:=Zm.1 h1
    obtain⟨b,blk0,q1,q2,q3,q4⟩:=ZeK hL p1 p2
    have h2':ZcK R L k=some (some c):=h2
    rw[Za6 q1] at h2'
    have:=ok.inj i b c (Zm.2 ⟨blk,hb',hdd⟩) (Zm.2 ⟨blk0,by rw[<- ZI];exact le b blk0 q2 q3,q3⟩) (by rw[hm,hc]) h2'
    subst this
    exact f3 (mG q1)
 ·intro i c hl hc hb1
  by_cases hs:∃s,Src i s
  ·obtain⟨s,hs⟩:=hs
   rw[F2 i s hs] at hc
   refine ok0.nb s c (liveS i s hs hl) hc ?_
   rw[x.b1];exact .inr hb1
  ·have hs':∀s,¬Src i s:=fun s h=>hs ⟨s,h⟩
   rw[(F3 i hs').2.1] at hc
   exact ok.nb i c (liveN i hs' hl) hc hb1
end
end
section
section
variable {P:Program} {G:Z1} {R:RP} {w:World} {e:Env} {a:Act} {Hm H':Zi} {nid:Nat} {o:Oper}
theorem Zzq {Γ:Ctx}{f:Nat}{args:List V} (h0:Ztn Γ f args=0->False) (h1:Ztn Γ f args=1->False):¬(Nat.ble (Γ.mode f) 1=true):=by
 intro hb
 have hb:=Nat.le_of_ble_eq_true hb
 unfold Ztn at h0 h1
 rcases lt_or_ge (Γ.mode f) 1 with h | h
 ·have e:Γ.mode f=0:=by omega
  rw[e] at h0
  exact h0 rfl
 ·have e:Γ.mode f=1:=by omega
  rw[e] at h1
  exact h1 rfl
theorem Zog (a:Act) (ok:R.OK w) (g:GOK G R w) (le:∀b blk,nth Hm b=some blk->blk ≠ .dead->nth R.H b=some blk) {Γ:Ctx}{cf:Zac} (hcf:ZeF P G cf) {f:Nat}{args:List V}{us:List Value}{v:V}{up:List (Nat×Blk)}{nw:List Blk}
  (ha:ZY R.weak w args us) (ha2:¬(Nat.ble (Γ.mode f) 1=true)->ZY R w args us) (h:Zgc Γ cf nid Hm f args=some (v,up,nw)) (hn:∀i,nid<=i->i<nid+nw.length->R.M i=none) (hp:ZK R.H up nid nw H') :
  Zfh P f=true/\Calls P f us.toArray w fun e w'=>∃u,e = .returned u/\Post R w nid nw.length H' v u w':=by
 unfold Zgc at h
 split at h
 ·cases hz:fzs Hm args with
  | none=>rw[hz] at h;cases h
  | some l=>
   rw[hz] at h
   dsimp only at h
   cases hc:cf f (ZbM l) [] with
   | none=>rw[hc] at h;cases h
   | some r=>
    obtain⟨v1,H1⟩:=r
    rw[hc] at h
    dsimp only at h
    cases hfr:fr H1 6 v1 with
    | none=>rw[hfr] at h;cases h
    | some q=>
     obtain⟨x,ks⟩:=q
     rw[hfr] at h
     dsimp only at h
     obtain⟨h1,h2⟩:=hcf f (ZbM l) [] v1 H1 hc
     refine⟨h1,(h2 R.inner w us (Zso ok) (ZpE g) rfl (fun _ _=>rfl) (ZsD (Zpf ok le 6 args l us hz ha))).mono ?_⟩
     rintro e' w' ⟨u,rfl,R0',x0,ok0,hH,hv,h0,hl⟩
     have hx:R.den w' x u:=ZDg (a:=a) ok x0 ok0 (x0.gok (Zso ok).b01 (ZpE g)) hH hv hfr
     have fin:∀v',Z5 R w' v' u->up=[]->nw=[]->Post R w nid nw.length H' v' u w':=by
      intro v' hv' hup hnw
      subst hup;subst hnw
      exact⟨R,x0.outer,ok.outer x0,hp.same.symm,hv',fun i h _=>h⟩
     split at h
     ·simp only[sJ,pJ] at h
      obtain⟨rfl,hup,hnw⟩:=h
      obtain⟨us',e1,e2⟩:=hx
      exact⟨u,rfl,fin _ ⟨us',e1,(ZcC _ us').2 e2⟩ hup.symm hnw.symm⟩
     ·simp only[sJ,pJ] at h
      obtain⟨rfl,hup,hnw⟩:=h
      exact⟨u,rfl,fin _ hx hup.symm hnw.symm⟩
 ·cases hz:fzs Hm args with
  | none=>rw[hz] at h;cases h
  | some l=>
   rw[hz] at h
   dsimp only at h
   cases hc:cf f (ZbM l) [] with
   | none=>rw[hc] at h;cases h
   | some r=>
    obtain⟨v1,H1⟩:=r
    rw[hc] at h
    dsimp only at h
    cases he:(ZsG v1&&Zm8 H1) with
    | false=>rw[he] at h;cases h
    | true=>
     rw[he] at h
     simp only[cT,sJ,pJ] at h
     obtain⟨rfl,rfl,rfl⟩:=h
     simp only[aT] at he
     obtain⟨h1,h2⟩:=hcf f (ZbM l) [] v1 H1 hc
     refine⟨h1,(h2 R.inner w us (Zso ok) (ZpE g) rfl (fun _ _=>rfl) (ZsD (Zpf ok le 6 args l us hz ha))).mono ?_⟩
     rintro e' w' ⟨u,rfl,R0',x0,ok0,hH,hv,h0,hl⟩
     rw[length_map] at hn ⊢
     exact⟨u,rfl,Zzh ok x0 ok0 hH hv h0 he.1 he.2 hn hp⟩
 ·rename_i m hm0 hm1
  have hm:¬(Nat.ble (Γ.mode f) 1=true):=Zzq hm0 hm1
  cases hx:extract 0 args Hm with
  | none=>rw[hx] at h;cases h
  | some q=>
   obtain⟨L,args',H0⟩:=q
   rw[hx] at h
   dsimp only at h
   have hL:=Zol hx
   cases hc:cf f args' H0 with
   | none=>rw[hc] at h;cases h
   | some r=>
    obtain⟨v1,H1⟩:=r
    rw[hc] at h
    dsimp only at h
    cases he:(Zm3 v1&&ZjG H1) with
    | false=>rw[he] at h;cases h
    | true=>
     rw[he] at h
     simp only[cT,sJ,pJ] at h
     obtain⟨rfl,rfl,rfl⟩:=h
     simp only[aT] at he
     obtain⟨h1,h2⟩:=hcf f args' H0 v1 H1 hc
     have hl0:H0.length=L.length:=by rw[hL.h,Zok]
     have hnone:∀i,H0.length<=i->(R.hand L H0).M i=none:=fun i hi=>by
      show ZcK R L i=none
      unfold ZcK
      rw[List.getElem?_eq_none (by omega)]
     have hargs:ZY (R.hand L H0) w args' us:=by
      rw[hL.vs]
      exact Zkg (Zu7 le hL) Zjq (fun x u _ h=>Zoo le hL h) args us (fun _ _=>trivial) (ha2 hm)
     refine⟨h1,(h2 (R.hand L H0) w us (ZDV le ok hL) (fun gl l hg=>Zoo le hL (g gl l hg)) rfl hnone hargs).mono ?_⟩
     rintro e' w' ⟨u,rfl,R0',x0,ok0,hH,hv,h0,hl⟩
     rw[length_map,length_drop] at hn ⊢
     exact⟨u,rfl,ZyT le ok hL x0 ok0 hH hv h0 hl he.1 he.2 _ rfl hn hp⟩
theorem ZC2 (pre:Pre G R w e a Hm) {Γ:Ctx}{cf:Zac} (hcf:ZeF P G cf) {f:Nat}{xs:Array Operand}{ats:Array TypeId}{ys:List Opd}{v:V}{up:List (Nat×Blk)}{nw:List Blk} (hop:o.op = .call { callee:=.value (.func f),args:=xs,argTypes:=ats }) (hx:ZcM G xs.toList ys=true)
  (h:Zgc Γ cf nid Hm f (Zd4 e ys)=some (v,up,nw)) (hn:∀i,nid<=i->i<nid+nw.length->R.M i=none) (hp:ZK R.H up nid nw H'):Zbl P o a w (Post R w nid nw.length H' v):=by
 have hv:=pre.opds hx
 obtain⟨h1,h2⟩:=Zog a pre.ok pre.g pre.le hcf (RP.denVs_weak _ _ hv) (fun _=>hv) h hn hp
 refine .inr (.inr ⟨f,(xs.toList.map a.eval).toArray,w,?_,h2⟩)
 have he:execOp a.eval o=callFunc f (#[]++xs.map a.eval ++ #[]):=by
  obtain⟨dst,op,ty,pos,after,guard⟩:=o
  simp only at hop
  subst hop
  rfl
 rw[he]
 have:(#[]++xs.map a.eval ++ #[]:Array Value)=(xs.toList.map a.eval).toArray:=by apply Array.ext';simp
 rw[this]
 exact ZhD h1
def Zpa (P:Program) (name:String) (t f:Nat):Bool:=
 match P.info? t with
 | some ti=>(match ti.methods.find? (·.name==name) with
  | some m=>m.path.toList.isEmpty&&((match m.func with | some (g,b)=>Nat.beq g f && !b | none=>false)&&(match P.underlying t with | some (.pointer _)=>false | some _=>true | none=>false))
  | none=>false)
 | none=>false
def ZrT (P:Program) (name:String):List (Nat×Nat)->Bool
 | []=>true
 | (t,f) :: r=>Zpa P name t f&&ZrT P name r
theorem ZrX {name:String}{t f:Nat}:∀{tab:List (Nat×Nat)},ZrT P name tab=true->ZlR tab t=some f->Zpa P name t f=true
 | [],_,h=>by cases h
 | (t',f') :: r,ht,h=>by
  unfold ZrT at ht
  rw[aT] at ht
  unfold ZlR at h
  cases hb:Nat.beq t' t with
  | true=>
   rw[hb] at h
   obtain rfl:=nQ hb
   cases h
   exact ht.1
  | false=>
   rw[hb] at h
   exact ZrX ht.2 h
theorem ZwQ {name:String}{t f n:Nat}{v:Value} (h:Zpa P name t f=true):(method (n+1) t v name).run P w = .ok (f,v) w:=by
 unfold Zpa at h
 cases hi:P.info? t with
 | none=>rw[hi] at h;cases h
 | some ti=>
  rw[hi] at h
  dsimp only at h
  cases hm:ti.methods.find? (·.name==name) with
  | none=>rw[hm] at h;cases h
  | some m=>
   rw[hm] at h
   simp only[aT] at h
   obtain⟨h1,h2,h3⟩:=h
   have hp:m.path.toList=[]:=by simpa using h1
   cases hf:m.func with
   | none=>rw[hf] at h2;cases h2
   | some q=>
    obtain⟨g,b⟩:=q
    rw[hf] at h2
    simp only[aT,Bool.not_eq_true'] at h2
    obtain⟨h4,rfl⟩:=h2
    obtain rfl:=nQ h4
    cases hu:P.underlying t with
    | none=>rw[hu] at h3;cases h3
    | some d=>
     rw[hu] at h3
     have hr : (receiverAt t (.val v) false (if m.path.isEmpty then some ((name.splitOn ".").getLastD name) else none)).run P w = .ok v w := by
      unfold receiverAt
      simp only[Sem.run_bind,run_underlying hu,Result.andThen_ok]
      cases d<;>first | rfl | cases h3
     unfold method
     simp only[Sem.run_bind,typeInfo,run_program,hi,Result.andThen_ok,hm,hp,follow,hf,Sem.run_pure,hr]
theorem ZBe (pre:Pre G R w e a Hm) {Γ:Ctx}{cf:Zac} (hcf:ZeF P G cf) {f t:Nat}{z:D}{tab:List (Nat×Nat)}{name:String}{x:Operand}{y:Opd}{xs:Array Operand}{ats:Array TypeId}{ys:List Opd}{v:V}{up:List (Nat×Blk)}{nw:List Blk} (hop:o.op = .call { callee:=.invoke x name,args:=xs,argTypes:=ats })
  (hy:Zz G x y=true) (hx:ZcM G xs.toList ys=true) (ht:ZrT P name tab=true) (hval:y.val e = .d (.iface t z)) (hl:ZlR tab t=some f)
  (h:Zgc Γ cf nid Hm f (.d z :: Zd4 e ys)=some (v,up,nw)) (hn:∀i,nid<=i->i<nid+nw.length->R.M i=none) (hp:ZK R.H up nid nw H'):Zbl P o a w (Post R w nid nw.length H' v):=by
 have hv:=pre.opds hx
 have hf:=pre.opd hy
 rw[hval] at hf
 obtain⟨u',e1,hz⟩:=hf
 have full:ZY R w (.d z :: Zd4 e ys) (u' :: xs.toList.map a.eval):=⟨u',_,rfl,hz,hv⟩
 obtain⟨h1,h2⟩:=Zog a pre.ok pre.g pre.le hcf (RP.denVs_weak _ _ full) (fun _=>full) h hn hp
 refine .inr (.inr ⟨f,(u' :: xs.toList.map a.eval).toArray,w,?_,h2⟩)
 have hm:=ZwQ (w:=w) (n:=P.types.size+(Made.depth-1)) (v:=u') (ZrX ht hl)
 have hd:P.types.size+(Made.depth-1)+1=P.types.size+Made.depth:=by
  have:0<Made.depth:=by decide
  omega
 rw[hd] at hm
 have harr:(#[a.eval x]++xs.map a.eval:Array Value)[0]? = some (.iface t u'):=by rw[e1,Array.getElem?_append_left (by simp)];rfl
 have hext:(#[a.eval x]++xs.map a.eval:Array Value).extract 1 (#[a.eval x]++xs.map a.eval:Array Value).size=xs.map a.eval:=by
  apply Array.ext'
  simp[List.take_of_length_le]
 have he:(execOp a.eval o).run P w=(callFunc f (#[u']++xs.map a.eval)).run P w:=by
  obtain⟨dst,op,ty,pos,after,guard⟩:=o
  simp only at hop
  subst hop
  have i1:(execOp a.eval { dst:=dst,op:=.call { callee:=.invoke x name,args:=xs,argTypes:=ats },type:=ty,pos:=pos,after:=after,guard:=guard })=(invoke (.fn (.method name) #[]) (#[a.eval x]++xs.map a.eval)):=rfl
  rw[i1]
  unfold invoke
  simp only[harr,hext]
  show(callMethod (.iface t u') name (xs.map a.eval)).run P w=_
  unfold callMethod
  simp only[Sem.run_bind,run_program,Result.andThen_ok,hm]
 rw[he]
 have:(#[u']++xs.map a.eval:Array Value)=(u' :: xs.toList.map a.eval).toArray:=by apply Array.ext';simp
 rw[this]
 exact ZhD h1
theorem Zux {name:String}{t f n:Nat}{v:Value} (h:Zpa P name t f=true):(nilAhead (n+1) t v name).run P w = .ok (some false) w:=by
 unfold Zpa at h
 cases hi:P.info? t with
 | none=>rw[hi] at h;cases h
 | some ti=>
  rw[hi] at h
  dsimp only at h
  cases hm:ti.methods.find? (·.name==name) with
  | none=>rw[hm] at h;cases h
  | some m=>
   rw[hm] at h
   simp only[aT] at h
   obtain⟨h1,h2,h3⟩:=h
   have hp:m.path.toList=[]:=by simpa using h1
   cases hf:m.func with
   | none=>rw[hf] at h2;cases h2
   | some q=>
    obtain⟨g,b⟩:=q
    rw[hf] at h2
    simp only[aT,Bool.not_eq_true'] at h2
    obtain⟨h4,rfl⟩:=h2
    cases hu:P.underlying t with
    | none=>rw[hu] at h3;cases h3
    | some d=>
     rw[hu] at h3
     unfold nilAhead
     simp only[Sem.run_bind,typeInfo,run_program,hi,Result.andThen_ok,hm,hp,followBlind,hf,Sem.run_pure,run_underlying hu]
     cases d<;>first | rfl | cases h3
theorem ZCs (pre:Pre G R w e a Hm) {tab:List (Nat×Nat)}{x:Operand}{y:Opd}{v:V}{up:List (Nat×Blk)}{nw:List Blk} (hop:o.op = .nilCheck x) (hx:Zz G x y=true) (ht:ZrT P Zjs tab=true) (h:ZqP tab (y.val e)=some (v,up,nw)) (hp:ZK R.H up nid nw H') :
  Zbl P o a w (Post R w nid nw.length H' v):=by
 have hv:=pre.opd hx
 unfold ZqP at h
 split at h
 ·rename_i f t z hy
  split at h
  ·rename_i g hl
   cases hb:Nat.beq f 2000000 with
   | false=>rw[hb] at h;cases h
   | true=>
    rw[hb] at h
    simp only[cT,Zba,sJ,pJ] at h
    obtain⟨rfl,rfl,rfl⟩:=h
    rw[hy] at hv
    have hv':=hv
    obtain⟨us,h1,u0,us',rfl,⟨u',rfl,_⟩,rfl⟩:=hv'
    obtain rfl:=nQ hb
    have hf:Zjy 2000000 [.iface t u'] = .func (.method Zjs) #[.iface t u'] #[]:=rfl
    rw[hf] at h1
    have hd:P.types.size+(Made.depth-1)+1=P.types.size+Made.depth:=by
     have:0<Made.depth:=by decide
     omega
    have hm:=Zux (w:=w) (n:=P.types.size+(Made.depth-1)) (v:=u') (ZrX ht hl)
    rw[hd] at hm
    refine .val (u:=a.eval x) (w':=w) ?_ (Post.stay pre.ok hp hv)
    unfold execOp
    rw[hop]
    simp only[h1,Sem.run_bind,run_program,Result.andThen_ok]
    simp[hm]
  ·cases h
 ·cases h
theorem Zu1 (f:Nat) (hb:Nat.beq f 2000000=false):(Zm5 f=f/\(∀caps args,Zp4 f caps args=args++caps)/\∀us,Zjy f us = .func (.func f) #[] us.toArray)∨∃g,Zm5 f=g/\(∀caps args,Zp4 f caps args=caps++args)/\∀us,Zjy f us = .func (.func g) us.toArray #[]:=by
 unfold Zm5 Zp4 Zjy
 rw[hb]
 cases isU f with
 | true=>exact .inl ⟨cT _ _,fun _ _=>cT _ _,fun _=>cT _ _⟩
 | false=>exact .inr ⟨unB f,cF _ _,fun _ _=>cF _ _,fun _=>rfl⟩
theorem ZEa (pre:Pre G R w e a Hm) {Γ:Ctx}{cf:Zac} (hcf:ZeF P G cf) {f:Nat}{x:Operand}{y:Opd}{caps:List V}{xs:Array Operand}{ats:Array TypeId}{ys:List Opd}{v:V}{up:List (Nat×Blk)}{nw:List Blk} (hop:o.op = .call { callee:=.value x,args:=xs,argTypes:=ats })
  (hx:ZcM G xs.toList ys=true) (hy:Zz G x y=true) (hcaps:Zk5 (y.val e)=some (f,caps)) (hbad:Zgd Γ (y.val e) f caps=false)
  (h:Zgc Γ cf nid Hm (Zm5 f) (Zp4 f caps (Zd4 e ys))=some (v,up,nw)) (hn:∀i,nid<=i->i<nid+nw.length->R.M i=none) (hp:ZK R.H up nid nw H'):Zbl P o a w (Post R w nid nw.length H' v):=by
 have hv:=pre.opds hx
 have hf:=pre.opd hy
 have app:∀{R:RP} {vs ws:List V} {us us':List Value},ZY R w vs us->ZY R w ws us'->ZY R w (vs++ws) (us++us'):=by
  intro R vs
  induction vs with
  | nil=>intro ws us us' h1 h2;simp only[ZY] at h1;subst h1;exact h2
  | cons v vs ih=>
   intro ws us us' h1 h2
   obtain⟨u,us0,rfl,h3,h4⟩:=h1
   exact⟨u,us0++us',rfl,h3,ih h4 h2⟩
 have hbm:Nat.beq f 2000000=false:=by unfold Zgd at hbad;exact(Bool.or_eq_false_iff.1 hbad).1
 have key:∃us',a.eval x=Zjy f us'/\ZY R.weak w caps us'/\(¬(Nat.ble (Γ.mode (Zm5 f)) 1=true)->ZY R w caps us'):=by
  unfold Zk5 at hcaps
  split at hcaps
  ·rename_i f' caps' hval
   cases hcaps
   rw[hval] at hf
   obtain⟨us',h1,h2⟩:=hf
   exact⟨us',h1,RP.denVs_weak _ _ h2,fun _=>h2⟩
  ·rename_i f' caps' hval
   cases hcaps
   rw[hval] at hf hbad
   obtain⟨us',h1,h2⟩:=hf
   refine⟨us',h1,(ZcC caps' us').2 (Z6.change _ _ _ _ (fun _ _ h=>h) (fun _ _ h=>⟨h,fun h=>h⟩) (fun _ _ h=>h) (fun _ _ _=>rfl) (Nat.le_refl _) (fun _ h=>h) (fun _ h=>h.1) caps' us' h2),fun hm=>?_⟩
   cases caps' with
   | nil=>
    simp only[Z6] at h2
    subst h2
    exact rfl
   | cons c cs=>
    exfalso
    replace hbad:=(Bool.or_eq_false_iff.1 (show(Nat.beq f 2000000 || _)=false from hbad)).2
    simp only[V.isD,ZbM,List.isEmpty_cons,Bool.not_false,Bool.and_true,Bool.true_and,Bool.not_eq_false'] at hbad
    exact hm hbad
  ·cases hcaps
 obtain⟨us',k1,k2,k3⟩:=key
 rcases Zu1 f hbm with⟨b1,b2,b3⟩ | ⟨g,b1,b2,b3⟩
 rotate_left
 ·rw[b1,b2] at h
  rw[b1] at k3
  rw[b3] at k1
  obtain⟨h1,h2⟩:=Zog a pre.ok pre.g pre.le hcf (app k2 (RP.denVs_weak _ _ hv)) (fun hm=>app (k3 hm) hv) h hn hp
  refine .inr (.inr ⟨g,(us'++xs.toList.map a.eval).toArray,w,?_,h2⟩)
  have he:(execOp a.eval o).run P w=(callFunc g (us'.toArray++xs.map a.eval ++ #[])).run P w:=by
   obtain⟨dst,op,ty,pos,after,guard⟩:=o
   simp only at hop
   subst hop
   simp[execOp,resolve,k1,Deferred.ofValue,invoke]
  rw[he]
  have:(us'.toArray++xs.map a.eval ++ #[]:Array Value)=(us'++xs.toList.map a.eval).toArray:=by apply Array.ext';simp
  rw[this]
  exact ZhD h1
 rw[b1,b2] at h
 rw[b1] at k3
 rw[b3] at k1
 obtain⟨h1,h2⟩:=Zog a pre.ok pre.g pre.le hcf (app (RP.denVs_weak _ _ hv) k2) (fun hm=>app hv (k3 hm)) h hn hp
 refine .inr (.inr ⟨f,(xs.toList.map a.eval++us').toArray,w,?_,h2⟩)
 have he:(execOp a.eval o).run P w=(callFunc f (#[]++xs.map a.eval++us'.toArray)).run P w:=by
  obtain⟨dst,op,ty,pos,after,guard⟩:=o
  simp only at hop
  subst hop
  simp[execOp,resolve,k1,Deferred.ofValue,invoke]
 rw[he]
 have:(#[]++xs.map a.eval++us'.toArray:Array Value)=(xs.toList.map a.eval++us').toArray:=by apply Array.ext';simp
 rw[this]
 exact ZhD h1
end
end
section
def Zgq {α:Type} (x:Option α) (f:α->Bool):Bool:=match x with | some a=>f a | none=>false
theorem Z3 {α:Type}{x:Option α}{f:α->Bool} (h:Zgq x f=true):∃a,x=some a/\f a=true:=by
 cases x with
 | none=>cases h
 | some a=>exact⟨a,rfl,h⟩
def ZuZ (P:Program) (t:TypeId) (sz:Nat) (z:Value->Bool):Bool:=
 match P.underlying t with
 | some (.slice el)=>Zgq (P.info? el) fun i=>Zgq i.zero fun zv=>Nat.beq i.size sz&&(Nat.beq zv.cells.size sz&&(Nat.blt 0 sz&&(Nat.ble i.bytes 131072&&z zv)))
 | _=>false
theorem Zh4 {P:Program}{t:TypeId}{sz:Nat}{z:Value->Bool} (h:ZuZ P t sz z=true):∃el i zv,Zvr P t el sz i zv/\z zv=true:=by
 unfold ZuZ at h
 split at h
 ·rename_i el hu
  obtain⟨i,h1,h⟩:=Z3 h
  obtain⟨zv,h2,h⟩:=Z3 h
  simp only[aT,ble_eq] at h
  obtain⟨h3,h4,h5,h6,h7⟩:=h
  exact⟨el,i,zv,⟨hu,h1,nQ h3,h2,nQ h4,by simp[Nat.blt] at h5;omega,h6⟩,h7⟩
 ·cases h
def ZzB (P:Program) (t:TypeId):Bool:=match P.underlying t with | some (.chan _ _)=>true | _=>false
def ZgL (P:Program) (t:TypeId):Bool:=match P.underlying t with | some (.slice _)=>true | _=>false
def zOf (z:List D):D:=match z with | [x]=>x | z=>.agg z
def Zc8 (P:Program) (G:Z1) (o:Oper) (op:O):Bool:=
 match op with
 | .mov y=>(match o.op with | .move x=>Zz G x y | .assign x=>Zz G x y | _=>false)
 | .pick c' x' y'=>(match o.op with | .pick c x y=>Zz G c c'&&(Zz G x x'&&Zz G y y') | _=>false)
 | .alloc z=>(match o.op with | .alloc t=>z.okb&&Zgq (ZkC P t) (cv z) | _=>false)
 | .box y=>(match o.op with | .box _ x=>Zz G x y | _=>false)
 | .build z ps=>(match o.op with | .build t parts=>Zgq (ZrD P t) fun place=>Zgq (ZkC P t) fun zv=>cvs z zv.cells.toList&&Zox G place parts.toList ps | _=>false)
 | .bslice sz z len ps=>(match o.op with | .buildSlice t l parts=>Nat.beq l len&&((!(Nat.beq len 0) || parts.isEmpty)&&Zrt G parts.toList ps&&(Nat.ble (len*sz) 16777216&&ZuZ P t sz fun zv=>cv (.d (zOf z)) zv&&(zOf z).esc)) | _=>false)
 | .load n ag y=>(match o.op with | .load t x=>Zz G x y&&(Zgq (Zhz P t) (fun b=>b==ag)&&Zgq (Zfb P t) (fun m=>Nat.beq m n)) | _=>false)
 | .store n x' y'=>(match o.op with | .store t x y=>Zz G x x'&&(Zz G y y'&&Zgq (Zfb P t) (fun m=>Nat.beq m n)) | _=>false)
 | .nilck y=>(match o.op with | .nilCheck x=>Zz G x y | _=>false)
 | .bin b x' y'=>(match o.op with | .binOp b' _ x y _=>decide (b'=b)&&(Zz G x x'&&Zz G y y') | _=>false)
 | .eqv ks neg x' y'=>(match o.op with | .binOp b t x y _=>decide (b=(bif neg then .neq else .eql))&&(Zz G x x'&&(Zz G y y'&&(Zgq (ZnN P t) (fun l=>l==ks) || Zgq (ZDv P t) (fun l=>l==ks)))) | _=>false)
 | .un b y=>(match o.op with | .unOp b' _ x=>decide (b'=b)&&Zz G x y | _=>false)
 | .conv k y=>(match o.op with | .convert s t x=>Zz G x y&&((P.underlying s).isSome&&(match P.underlying t with | some (.int k')=>decide (k'=k) | _=>false)) | _=>false)
 | .mkfn f ys=>(match o.op with | .makeFunc (.method name) first caps=>Nat.beq f 2000000&&(name==Zjs&&(caps.isEmpty&&(!ys.isEmpty&&ZcM G first.toList ys))) | .makeFunc (.func f') first caps=>(isU f&&(Nat.beq f' f&&(first.isEmpty&&ZcM G caps.toList ys))) || (Nat.beq f (1000000+f')&&(!Nat.beq f 2000000&&(caps.isEmpty&&(!ys.isEmpty&&ZcM G first.toList ys)))) | _=>false)
 | .mkslice sz z x' y'=>(match o.op with | .makeSlice t x y=>Zz G x x'&&(Zz G y y'&&ZuZ P t sz fun zv=>cv (.d (zOf z)) zv&&(zOf z).esc) | _=>false)
 | .slice sz y lo' hi' mx'=>(match o.op with | .slice t x lo hi mx=>Zz G x y&&(ZnO G lo lo'&&(ZnO G hi hi'&&(ZnO G mx mx'&&((mx'.isNone || hi'.isSome)&&Zgq (ZqC P t) (fun el=>Zgq (Zfb P el) fun n=>Nat.beq n sz))))) | _=>false)
 | .faddr off y=>(match o.op with | .fieldAddr s x f=>Zz G x y&&Zgq (ZoJ P s f) (fun q=>Nat.beq q.1 off&&Zgq (Zfb P q.2) (fun n=>!(Nat.beq n 0))) | _=>false)
 | .iaddr sz x' i'=>(match o.op with | .indexAddr t x i=>Zz G x x'&&(Zz G i i'&&Zgq (ZqC P t) (fun el=>Zgq (Zfb P el) fun n=>Nat.beq n sz)) | _=>false)
 | .iaddrA len sz x' i'=>(match o.op with | .indexAddr t x i=>Zz G x x'&&(Zz G i i'&&Zgq (Ztx P t) (fun q=>Nat.beq q.1 len&&Zgq (Zfb P q.2) fun n=>Nat.beq n sz)) | _=>false)
 | .index len sz ag x' i'=>(match o.op with | .index t x i=>Zz G x x'&&(Zz G i i'&&Zgq (Ztx P t) (fun q=>Nat.beq q.1 len&&(Zgq (Zfb P q.2) (fun n=>Nat.beq n sz)&&Zgq (Zhz P q.2) (fun b=>b==ag)))) | _=>false)
 | .indexS x' i'=>(match o.op with | .index t x i=>Zz G x x'&&(Zz G i i'&&(match P.underlying t with | some .string=>true | _=>false)) | _=>false)
 | .len y=>(match o.op with | .call c=>(match c.callee,c.args.toList,c.argTypes.toList with | .builtin .len,[x],[t]=>Zz G x y&&ZgL P t | _,_,_=>false) | _=>false)
 | .append sz x' y'=>(match o.op with | .call c=>(match c.callee,c.args.toList,c.argTypes.toList with | .builtin .append,[x,y],[t,t2]=>Zz G x x'&&(Zz G y y'&&(ZgL P t2&&ZuZ P t sz fun _=>true)) | _,_,_=>false) | _=>false)
 | .appendD sz x' y'=>(match o.op with | .call c=>(match c.callee,c.args.toList,c.argTypes.toList with | .builtin .append,[x,y],[t,t2]=>Zz G x x'&&(Zz G y y'&&(ZgL P t2&&ZuZ P t sz fun _=>true)) | _,_,_=>false) | _=>false)
 | .mx b ys=>(match o.op with | .call c=>(match c.callee with | .builtin .max=>b&&ZcM G c.args.toList ys | .builtin .min=>!b&&ZcM G c.args.toList ys | _=>false) | _=>false)
 | .extract y i=>(match o.op with | .extract x j=>Zz G x y&&Nat.beq j i | _=>false)
 | .mkif t y=>(match o.op with | .makeInterface t' x=>Nat.beq t' t&&(Zz G x y&&P.concrete t) | _=>false)
 | .call f ys=>(match o.op with | .call c=>(match c.callee with | .value (.func f')=>Nat.beq f' f&&ZcM G c.args.toList ys | _=>false) | _=>false)
 | .callv y ys=>(match o.op with | .call c=>(match c.callee with | .value x=>Zz G x y&&ZcM G c.args.toList ys | _=>false) | _=>false)
 | .invoke tab y ys=>(match o.op with | .call c=>(match c.callee with | .invoke x name=>Zz G x y&&(ZcM G c.args.toList ys&&ZrT P name tab) | _=>false) | _=>false)
 | .panic=>true
 | .storek n x' y' _=>(match o.op with | .store t x y=>Zz G x x'&&(Zz G y y'&&Zgq (Zfb P t) (fun m=>Nat.beq m n)) | _=>false)
 | .nilq y=>(match o.op with | .binOp .eql t x (.const (.slice none _ _)) _=>Zz G x y&&ZgL P t | _=>false)
 | .spec _ _=>false
 | .sortI _=>false
 | .chNew _=>false
 | .mkD sz z x' y'=>(match o.op with | .makeSlice t x y=>Zz G x x'&&(Zz G y y'&&ZuZ P t sz fun zv=>cv (.d (zOf z)) zv&&(zOf z).esc) | _=>false)
 | .bsD y=>(match o.op with | .buildSlice t 1 parts=>(match parts.toList with | [(0,x)]=>Zz G x y&&ZuZ P t 1 fun _=>true | _=>false) | _=>false)
 | .loadF n ag y=>(match o.op with | .load t x=>Zz G x y&&(Zgq (Zhz P t) (fun b=>b==ag)&&Zgq (Zfb P t) (fun m=>Nat.beq m n)) | _=>false)
 | .chTake _ _=>false
 | .chLen y=>(match o.op with | .call c=>(match c.callee,c.args.toList,c.argTypes.toList with | .builtin .len,[x],[t]=>Zz G x y&&ZzB P t | _,_,_=>false) | _=>false)
 | .nilckm tab y=>(match o.op with | .nilCheck x=>Zz G x y&&ZrT P Zjs tab | _=>false)
 | .callk f ys _=>(match o.op with | .call c=>(match c.callee with | .value (.func f')=>Nat.beq f' f&&ZcM G c.args.toList ys | _=>false) | _=>false)
 | .mkmap=>(match o.op with | .makeMap t r=>r.isNone | _=>false)
 | .mapset ks m' k' v'=>(match o.op with | .mapUpdate t m k v=>Zz G m m'&&(Zz G k k'&&(Zz G v v'&&Ztw P t ks none)) | _=>false)
 | .mapget ks z m' k'=>(match o.op with | .lookup t m k ok=>!ok&&(Zz G m m'&&(Zz G k k'&&Ztw P t ks (some z))) | _=>false)
section
variable {P:Program} {G:Z1} {R:RP} {w:World} {e:Env} {a:Act} {Hm H':Zi} {nid:Nat} {o:Oper}
theorem ZQ {v v':V}{up:List (Nat×Blk)}{nw:List Blk} (h:Zba v=some (v',up,nw)):v=v'/\up=[]/\nw=[]:=by
 unfold Zba at h;cases h;exact⟨rfl,rfl,rfl⟩
theorem Zym (pre:Pre G R w e a Hm) {Γ:Ctx}{cf:Zac} (hcf:ZeF P G cf) {op:O}{v:V}{up:List (Nat×Blk)}{nw:List Blk} (hc:Zc8 P G o op=true) (h:opE Γ cf e nid Hm op=some (v,up,nw)) (hn:∀i,nid<=i->i<nid+nw.length->R.M i=none) (hp:ZK R.H up nid nw H') :
  Zbl P o a w (Post R w nid nw.length H' v):=by
 cases op with
 | mov y=>
  obtain⟨rfl,rfl,rfl⟩:=ZQ h
  simp only[Zc8] at hc
  split at hc
  ·rename_i x hop;exact ZEj pre (.inl hop) hc hp
  ·rename_i x hop;exact ZEj pre (.inr hop) hc hp
  ·cases hc
 | pick c' x' y'=>
  simp only[Zc8] at hc
  split at hc
  ·rename_i c x y hop
   simp only[aT] at hc
   simp only[opE] at h
   split at h
   ·rename_i t ht
    obtain⟨rfl,rfl,rfl⟩:=ZQ h
    exact ZFP pre hop hc.1 hc.2.1 hc.2.2 ht hp
   ·cases h
  ·cases hc
 | alloc z=>
  simp only[Zc8] at hc
  split at hc
  ·rename_i t hop
   simp only[aT] at hc
   obtain⟨zv,h1,h2⟩:=Z3 hc.2
   simp only[opE,sJ,pJ] at h
   obtain⟨rfl,rfl,rfl⟩:=h
   exact ZDE pre hop h1 h2 hc.1 (hn nid (Nat.le_refl _) (by simp)) hp
  ·cases hc
 | box y=>
  simp only[Zc8] at hc
  split at hc
  ·rename_i t x hop
   simp only[opE] at h
   cases hb:(y.val e).okb with
   | false=>rw[hb] at h;cases h
   | true=>
    rw[hb] at h
    simp only[cT,sJ,pJ] at h
    obtain⟨rfl,rfl,rfl⟩:=h
    exact ZHl pre hop hc hb (hn nid (Nat.le_refl _) (by simp)) hp
  ·cases hc
 | build z ps=>
  simp only[Zc8] at hc
  split at hc
  ·rename_i t parts hop
   obtain⟨place,h1,hc⟩:=Z3 hc
   obtain⟨zv,h2,hc⟩:=Z3 hc
   simp only[aT] at hc
   simp only[opE] at h
   split at h
   ·rename_i cs hf
    obtain⟨rfl,rfl,rfl⟩:=ZQ h
    exact ZDr pre hop h1 h2 hc.1 hc.2 hf hp
   ·cases h
  ·cases hc
 | bslice sz z len ps=>
  simp only[Zc8] at hc
  split at hc
  ·rename_i t l parts hop
   simp only[aT,ble_eq] at hc
   obtain⟨c1,⟨c0,c2⟩,c3,c4⟩:=hc
   obtain rfl:=nQ c1
   obtain⟨el,i,zv,he,hz⟩:=Zh4 c4
   simp only[aT] at hz
   simp only[opE] at h
   cases hl:Nat.beq l 0 with
   | true=>
    rw[hl] at h
    obtain rfl:=nQ hl
    obtain⟨rfl,rfl,rfl⟩:=ZQ h
    exact Zzm pre hop he (Array.isEmpty_iff.1 (by simpa using c0)) hp
   | false=>
    rw[hl] at h
    simp only[cF] at h
    split at h
    ·rename_i xs ks hf
     simp only[sJ,pJ] at h
     obtain⟨rfl,rfl,rfl⟩:=h
     exact ZCY pre hop he hz.1 hz.2 (fun h0=>by subst h0;cases hl) c3 c2 hf (hn nid (Nat.le_refl _) (by simp)) hp
    ·cases h
  ·cases hc
 | load n ag y=>
  simp only[Zc8] at hc
  split at hc
  ·rename_i t x hop
   simp only[aT] at hc
   obtain⟨b,h1,h2⟩:=Z3 hc.2.1
   obtain⟨m,h3,h4⟩:=Z3 hc.2.2
   obtain rfl:=nQ h4
   obtain rfl:b=ag:=by simpa using h2
   simp only[opE] at h
   split at h
   ·rename_i v' hl
    obtain⟨rfl,rfl,rfl⟩:=ZQ h
    exact ZEI pre hop hc.1 h1 h3 hl hp
   ·cases h
  ·cases hc
 | store n x' y'=>
  simp only[Zc8] at hc
  split at hc
  ·rename_i t x y hop
   simp only[aT] at hc
   obtain⟨m,h3,h4⟩:=Z3 hc.2.2
   obtain rfl:=nQ h4
   simp only[opE] at h
   exact Zye pre hop hc.1 hc.2.1 h3 h hp
  ·cases hc
 | storek n x' y' chk=>
  simp only[Zc8] at hc
  split at hc
  ·rename_i t x y hop
   simp only[aT] at hc
   obtain⟨m,h3,h4⟩:=Z3 hc.2.2
   obtain rfl:=nQ h4
   simp only[opE] at h
   exact Zye pre hop hc.1 hc.2.1 h3 h hp
  ·cases hc
 | nilck y=>
  simp only[Zc8] at hc
  split at hc
  ·rename_i x hop
   simp only[opE] at h
   split at h
   ·rename_i v' hl
    obtain⟨rfl,rfl,rfl⟩:=ZQ h
    exact ZDi pre hop hc hl hp
   ·cases h
  ·cases hc
 | bin b x' y'=>
  simp only[Zc8] at hc
  split at hc
  ·rename_i b' t x y t' hop
   simp only[aT,decide_eq_true_eq] at hc
   obtain⟨rfl,c1,c2⟩:=hc
   simp only[opE] at h
   split at h
   ·rename_i v' hl
    obtain⟨rfl,rfl,rfl⟩:=ZQ h
    exact ZGy pre hop c1 c2 hl hp
   ·cases h
  ·cases hc
 | eqv ks neg x' y'=>
  simp only[Zc8] at hc
  split at hc
  ·rename_i b t x y t' hop
   simp only[aT,decide_eq_true_eq] at hc
   obtain⟨rfl,c1,c2,c3⟩:=hc
   have c4:ZnN P t=some ks∨ZDv P t=some ks:=by
    rcases Bool.or_eq_true_iff.1 c3 with c3 | c3
    ·obtain⟨l,h1,h2⟩:=Z3 c3
     obtain rfl:l=ks:=by simpa using h2
     exact .inl h1
    ·obtain⟨l,h1,h2⟩:=Z3 c3
     obtain rfl:l=ks:=by simpa using h2
     exact .inr h1
   simp only[opE] at h
   split at h
   ·rename_i d1 d2 e1 e2
    split at h
    ·rename_i hk
     split at h
     ·rename_i r hr
      obtain⟨rfl,rfl,rfl⟩:=ZQ h
      rcases c4 with h1 | h1
      ·exact ZGY pre hop c1 c2 h1 e1 e2 hk hr hp
      ·exact ZF0 pre hop c1 c2 h1 e1 e2 hk hr hp
     ·cases h
    ·cases h
   ·cases h
  ·cases hc
 | un b y=>
  simp only[Zc8] at hc
  split at hc
  ·rename_i b' t x hop
   simp only[aT,decide_eq_true_eq] at hc
   obtain⟨rfl,c1⟩:=hc
   simp only[opE] at h
   split at h
   ·rename_i v' hl
    obtain⟨rfl,rfl,rfl⟩:=ZQ h
    exact ZJk pre hop c1 hl hp
   ·cases h
  ·cases hc
 | conv k y=>
  simp only[Zc8] at hc
  split at hc
  ·rename_i s t x hop
   simp only[aT] at hc
   obtain⟨c1,c2,c3⟩:=hc
   obtain⟨ds,hds⟩:=Option.isSome_iff_exists.1 c2
   split at c3
   ·rename_i k' hk
    simp only[decide_eq_true_eq] at c3
    subst c3
    simp only[opE] at h
    split at h
    ·rename_i k0 n hv
     obtain⟨rfl,rfl,rfl⟩:=ZQ h
     exact ZE8 pre hop c1 hds hk hv hp
    ·cases h
   ·cases c3
  ·cases hc
 | mkfn f ys=>
  simp only[Zc8] at hc
  split at hc
  ·rename_i name first caps hop
   simp only[aT] at hc
   obtain⟨c1,cn,c2,c0,c3⟩:=hc
   obtain rfl:=nQ c1
   simp only[opE] at h
   obtain⟨rfl,rfl,rfl⟩:=ZQ h
   cases ys with
   | nil=>cases c0
   | cons y ys=>exact ZDM (P:=P) pre (by rw[hop,eq_of_beq cn]) (Array.isEmpty_iff.1 c2) c3 hp
  ·rename_i f' first caps hop
   rw[Bool.or_eq_true] at hc
   simp only[opE] at h
   obtain⟨rfl,rfl,rfl⟩:=ZQ h
   rcases hc with hc | hc
   ·simp only[aT] at hc
    obtain⟨c0,c1,c2,c3⟩:=hc
    obtain rfl:=nQ c1
    have:=ZFs (P:=P) pre hop c0 (Array.isEmpty_iff.1 c2) c3 hp
    cases ys<;>exact this
   ·simp only[aT] at hc
    obtain⟨c1,cb,c2,c0,c3⟩:=hc
    obtain rfl:=nQ c1
    cases ys with
    | nil=>cases c0
    | cons y ys=>exact ZDW (P:=P) pre hop (by simpa using cb) (Array.isEmpty_iff.1 c2) c3 hp
  ·cases hc
 | mkslice sz z x' y'=>
  simp only[Zc8] at hc
  split at hc
  ·rename_i t x y hop
   simp only[aT] at hc
   obtain⟨c1,c2,c3⟩:=hc
   obtain⟨el,i,zv,he,hz⟩:=Zh4 c3
   simp only[aT] at hz
   simp only[opE] at h
   split at h
   ·rename_i k1 n k2 m e1 e2
    cases hb:(decide (0<=n)&&decide (n<=lim)&&decide (n==m)) with
    | false=>rw[hb] at h;cases h
    | true=>
     rw[hb] at h
     simp only[cT,sJ,pJ] at h
     obtain⟨rfl,rfl,rfl⟩:=h
     simp only[aT,decide_eq_true_eq,beq_iff_eq] at hb
     obtain⟨⟨b1,b2⟩,rfl⟩:=hb
     exact Zzk pre hop he hz.1 hz.2 c1 c2 e1 e2 b1 b2 (hn nid (Nat.le_refl _) (by simp)) hp
   ·cases h
  ·cases hc
 | slice sz y lo' hi' mx'=>
  simp only[Zc8] at hc
  split at hc
  ·rename_i t x lo hi mx hop
   simp only[aT] at hc
   obtain⟨c1,c2,c3,c4,c5,c6⟩:=hc
   obtain⟨el,h1,h2⟩:=Z3 c6
   obtain⟨n,h3,h4⟩:=Z3 h2
   obtain rfl:=nQ h4
   simp only[opE] at h
   split at h
   ·rename_i v' hl
    obtain⟨rfl,rfl,rfl⟩:=ZQ h
    exact ZDJ pre hop c1 c2 c3 c4 (fun hm=>by cases mx'<;>simp_all) h1 h3 hl hp
   ·cases h
  ·cases hc
 | faddr off y=>
  simp only[Zc8] at hc
  split at hc
  ·rename_i s x f hop
   simp only[aT] at hc
   obtain⟨⟨off',t⟩,h1,h2⟩:=Z3 hc.2
   simp only[aT] at h2
   obtain⟨n,h3,h4⟩:=Z3 h2.2
   obtain rfl:=nQ h2.1
   simp only[opE] at h
   split at h
   ·rename_i v' hl
    obtain⟨rfl,rfl,rfl⟩:=ZQ h
    exact ZD2 pre hop hc.1 h1 h3 (fun h0=>by subst h0;cases h4) hl hp
   ·cases h
  ·cases hc
 | iaddr sz x' i'=>
  simp only[Zc8] at hc
  split at hc
  ·rename_i t x i hop
   simp only[aT] at hc
   obtain⟨c1,c2,c3⟩:=hc
   obtain⟨el,h1,h2⟩:=Z3 c3
   obtain⟨n,h3,h4⟩:=Z3 h2
   obtain rfl:=nQ h4
   simp only[opE] at h
   split at h
   ·rename_i v' hl
    obtain⟨rfl,rfl,rfl⟩:=ZQ h
    exact ZDk pre hop c1 c2 h1 h3 hl hp
   ·cases h
  ·cases hc
 | iaddrA len sz x' i'=>
  simp only[Zc8] at hc
  split at hc
  ·rename_i t x i hop
   simp only[aT] at hc
   obtain⟨c1,c2,c3⟩:=hc
   obtain⟨⟨len',el⟩,h1,h2⟩:=Z3 c3
   simp only[aT] at h2
   obtain⟨n,h3,h4⟩:=Z3 h2.2
   obtain rfl:=nQ h4
   obtain rfl:=nQ h2.1
   simp only[opE] at h
   split at h
   ·rename_i v' hl
    obtain⟨rfl,rfl,rfl⟩:=ZQ h
    exact ZzY pre hop c1 c2 h1 h3 hl hp
   ·cases h
  ·cases hc
 | indexS x' i'=>
  simp only[Zc8] at hc
  split at hc
  ·rename_i t x i hop
   simp only[aT] at hc
   obtain⟨c1,c2,c3⟩:=hc
   split at c3
   ·rename_i hu
    simp only[opE] at h
    split at h
    ·rename_i v' hl
     obtain⟨rfl,rfl,rfl⟩:=ZQ h
     exact ZCM pre hop c1 c2 hu hl hp
    ·cases h
   ·cases c3
  ·cases hc
 | len y=>
  simp only[Zc8] at hc
  split at hc
  ·rename_i c hop
   obtain⟨callee,args,ats⟩:=c
   dsimp only at hc
   split at hc
   ·rename_i x t hargs hats
    simp only[aT] at hc
    have e1:args = #[x]:=by apply Array.ext';simpa using hargs
    have e2:ats = #[t]:=by apply Array.ext';simpa using hats
    subst e1;subst e2
    obtain⟨el,hel⟩:∃el,ZqC P t=some el:=by
     have:=hc.2
     unfold ZgL at this;unfold ZqC
     split at this
     ·rename_i el hu;first | (rw[hu];exact⟨el,rfl⟩) | exact⟨el,rfl⟩
     ·cases this
    simp only[opE] at h
    split at h
    ·rename_i v' hl
     obtain⟨rfl,rfl,rfl⟩:=ZQ h
     exact ZHM pre hop hc.1 hel hl hp
    ·cases h
   ·cases hc
  ·cases hc
 | append sz x' y'=>
  simp only[Zc8] at hc
  split at hc
  ·rename_i c hop
   obtain⟨callee,args,ats⟩:=c
   dsimp only at hc
   split at hc
   ·rename_i x y t t2 hargs hats
    simp only[aT] at hc
    obtain⟨c1,c2,c3,c4⟩:=hc
    have e1:args = #[x,y]:=by apply Array.ext';simpa using hargs
    have e2:ats = #[t,t2]:=by apply Array.ext';simpa using hats
    subst e1;subst e2
    obtain⟨el,i,zv,he,_⟩:=Zh4 c4
    obtain⟨el2,hel⟩:∃el2,P.underlying t2=some (.slice el2):=by
     unfold ZgL at c3
     split at c3
     ·rename_i el hu;exact⟨el,hu⟩
     ·cases c3
    simp only[opE] at h
    exact ZAo pre hop he hel c1 c2 h hn hp
   ·cases hc
  ·cases hc
 | appendD sz x' y'=>
  simp only[Zc8] at hc
  split at hc
  ·rename_i c hop
   obtain⟨callee,args,ats⟩:=c
   dsimp only at hc
   split at hc
   ·rename_i x y t t2 hargs hats
    simp only[aT] at hc
    obtain⟨c1,c2,c3,c4⟩:=hc
    have e1:args = #[x,y]:=by apply Array.ext';simpa using hargs
    have e2:ats = #[t,t2]:=by apply Array.ext';simpa using hats
    subst e1;subst e2
    obtain⟨el,i,zv,he,_⟩:=Zh4 c4
    obtain⟨el2,hel⟩:∃el2,P.underlying t2=some (.slice el2):=by
     unfold ZgL at c3
     split at c3
     ·rename_i el hu;exact⟨el,hu⟩
     ·cases c3
    simp only[opE] at h
    split at h
    ·rename_i v' hv'
     obtain⟨rfl,rfl,rfl⟩:=ZQ h
     exact Zzn pre hop he hel c1 c2 hv' hp
    ·cases h
   ·cases hc
  ·cases hc
 | mx b ys=>
  simp only[Zc8] at hc
  split at hc
  ·rename_i c hop
   obtain⟨callee,args,ats⟩:=c
   dsimp only at hc
   simp only[opE] at h
   split at h
   ·rename_i r hr
    obtain⟨rfl,rfl,rfl⟩:=ZQ h
    split at hc
    ·simp only[aT] at hc
     obtain⟨rfl,c2⟩:=hc
     exact ZHp pre (b:=true) hop c2 hr hp
    ·simp only[aT,Bool.not_eq_true'] at hc
     obtain⟨rfl,c2⟩:=hc
     exact ZHp pre (b:=false) hop c2 hr hp
    ·cases hc
   ·cases h
  ·cases hc
 | extract y i=>
  simp only[Zc8] at hc
  split at hc
  ·rename_i x j hop
   simp only[aT] at hc
   obtain rfl:=nQ hc.2
   simp only[opE] at h
   split at h
   ·rename_i vs hy
    split at h
    ·rename_i v' hl
     obtain⟨rfl,rfl,rfl⟩:=ZQ h
     exact ZtN pre hop hc.1 (.inl ⟨vs,hy,hl⟩) hp
    ·cases h
   ·rename_i vs hy
    split at h
    ·rename_i v' hl
     obtain⟨rfl,rfl,rfl⟩:=ZQ h
     exact ZtN pre hop hc.1 (.inr ⟨vs,v',hy,hl,rfl⟩) hp
    ·cases h
   ·cases h
  ·cases hc
 | mkif t y=>
  simp only[Zc8] at hc
  split at hc
  ·rename_i t' x hop
   simp only[aT] at hc
   obtain rfl:=nQ hc.1
   simp only[opE] at h
   split at h
   ·rename_i z hf
    obtain⟨rfl,rfl,rfl⟩:=ZQ h
    exact ZFR pre hop hc.2.1 hc.2.2 hf hp
   ·cases h
  ·cases hc
 | call f ys=>
  simp only[Zc8] at hc
  split at hc
  ·rename_i c hop
   obtain⟨callee,args,ats⟩:=c
   dsimp only at hc
   split at hc
   ·simp only[aT] at hc
    obtain rfl:=nQ hc.1
    simp only[opE] at h
    exact ZC2 pre hcf hop hc.2 h hn hp
   ·cases hc
  ·cases hc
 | callv y ys=>
  simp only[Zc8] at hc
  split at hc
  ·rename_i c hop
   obtain⟨callee,args,ats⟩:=c
   dsimp only at hc
   split at hc
   ·simp only[aT] at hc
    rw[Zgx] at h
    split at h
    ·rename_i f caps hcaps
     split at h
     ·cases h
     ·rename_i hbad
      exact ZEa pre hcf hop hc.2 hc.1 hcaps hbad h hn hp
    ·cases h
   ·cases hc
  ·cases hc
 | index len sz ag x' i'=>
  simp only[Zc8] at hc
  split at hc
  ·rename_i t x i hop
   simp only[aT] at hc
   obtain⟨c1,c2,c3⟩:=hc
   obtain⟨⟨len',el⟩,h1,h2⟩:=Z3 c3
   simp only[aT] at h2
   obtain⟨n,h3,h4⟩:=Z3 h2.2.1
   obtain⟨b,h5,h6⟩:=Z3 h2.2.2
   obtain rfl:=nQ h4
   obtain rfl:=nQ h2.1
   obtain rfl:b=ag:=by simpa using h6
   simp only[opE] at h
   split at h
   ·rename_i v' hl
    obtain⟨rfl,rfl,rfl⟩:=ZQ h
    exact ZC9 pre hop c1 c2 h1 h5 h3 hl hp
   ·cases h
  ·cases hc
 | invoke tab y ys=>
  simp only[Zc8] at hc
  split at hc
  ·rename_i c hop
   obtain⟨callee,args,ats⟩:=c
   dsimp only at hc
   split at hc
   ·simp only[aT] at hc
    rw[Zfx] at h
    split at h
    ·rename_i t z hval
     split at h
     ·rename_i f hl
      exact ZBe pre hcf hop hc.1 hc.2.1 hc.2.2 hval hl h hn hp
     ·cases h
    ·cases h
   ·cases hc
  ·cases hc
 | panic=>cases h
 | spec id args=>cases hc
 | sortI x=>cases hc
 | chNew x=>cases hc
 | loadF n ag y=>
  simp only[Zc8] at hc
  split at hc
  ·rename_i t x hop
   simp only[aT] at hc
   obtain⟨b,h1,h2⟩:=Z3 hc.2.1
   obtain⟨m,h3,h4⟩:=Z3 hc.2.2
   obtain rfl:=nQ h4
   obtain rfl:b=ag:=by simpa using h2
   simp only[opE] at h
   split at h
   ·rename_i v' hl
    split at h
    ·rename_i z ks hf
     simp only[sJ,pJ] at h
     obtain⟨rfl,rfl,rfl⟩:=h
     exact ZDp pre hop hc.1 h1 h3 hl hf hp
    ·cases h
   ·cases h
  ·cases hc
 | mkD sz z x' y'=>
  simp only[Zc8] at hc
  split at hc
  ·rename_i t x y hop
   simp only[aT] at hc
   obtain⟨c1,c2,c3⟩:=hc
   obtain⟨el,i,zv,he,hz⟩:=Zh4 c3
   simp only[aT] at hz
   simp only[opE] at h
   split at h
   ·rename_i k1 n k2 m e1 e2
    cases hb:(decide (0<=n)&&decide (n<=lim)&&decide (n==m)) with
    | false=>rw[hb] at h;cases h
    | true=>
     rw[hb] at h
     simp only[cT] at h
     obtain⟨rfl,rfl,rfl⟩:=ZQ h
     simp only[aT,decide_eq_true_eq,beq_iff_eq] at hb
     obtain⟨⟨b1,b2⟩,rfl⟩:=hb
     exact ZHy pre hop he hz.1 hz.2 c1 c2 e1 e2 b1 b2 hp
   ·cases h
  ·cases hc
 | bsD y=>
  simp only[Zc8] at hc
  split at hc
  ·rename_i t parts hop
   split at hc
   ·rename_i x hparts
    rw[aT] at hc
    have e1:parts = #[(0,x)]:=by apply Array.ext';simpa using hparts
    subst e1
    obtain⟨el,i,zv,he,_⟩:=Zh4 hc.2
    simp only[opE] at h
    split at h
    ·rename_i n hv
     obtain⟨rfl,rfl,rfl⟩:=ZQ h
     exact ZGv pre hop he hc.1 hv hp
    ·cases h
   ·cases hc
  ·cases hc
 | chTake x n=>cases hc
 | chLen y=>
  simp only[Zc8] at hc
  split at hc
  ·rename_i c hop
   obtain⟨callee,args,ats⟩:=c
   dsimp only at hc
   split at hc
   ·rename_i x t hargs hats
    simp only[aT] at hc
    have e1:args = #[x]:=by apply Array.ext';simpa using hargs
    have e2:ats = #[t]:=by apply Array.ext';simpa using hats
    subst e1;subst e2
    have hch:∃dir el,P.underlying t=some (.chan dir el):=by
     have:=hc.2
     unfold ZzB at this
     split at this
     ·rename_i dir el hu;exact⟨dir,el,hu⟩
     ·cases this
    simp only[opE] at h
    split at h
    ·rename_i v' hl
     obtain⟨rfl,rfl,rfl⟩:=ZQ h
     exact ZDy pre hop hc.1 hch hl hp
    ·cases h
   ·cases hc
  ·cases hc
 | nilckm tab y=>
  simp only[Zc8] at hc
  split at hc
  ·rename_i x hop
   rw[aT] at hc
   exact ZCs pre hop hc.1 hc.2 h hp
  ·cases hc
 | nilq y=>
  simp only[Zc8] at hc
  split at hc
  ·rename_i t x n1 n2 t' hop
   simp only[aT] at hc
   simp only[opE] at h
   split at h
   ·rename_i xs hxs
    split at h
    ·rename_i hb
     obtain⟨rfl,rfl,rfl⟩:=ZQ h
     have hl:0<xs.length:=by have:=hb;simp[Nat.blt] at this;omega
     unfold ZgL at hc
     obtain⟨c1,c2⟩:=hc
     split at c2
     ·rename_i el hu
      obtain⟨ad,cap,hval⟩:=Zxb pre (pre.opd c1) hxs hl
      refine Zaq (s:=do eqGuard .eql t x (.const (.slice none n1 n2)) (a.eval x) (.slice none n1 n2);binOp .eql t (a.eval x) (.slice none n1 n2)) (u:=.bool false) (by unfold execOp;rw[hop];rfl) ?_ (Post.stay pre.ok hp rfl)
      rw[hval]
      have hq:(Op.equalIn 10000 t (.slice (some ad) xs.length cap) (.slice none n1 n2)).run P w = .ok false w:=by
       show(Op.equalIn (9999+1) t (.slice (some ad) xs.length cap) (.slice none n1 n2)).run P w = .ok false w
       rw[Op.equalIn]
       simp only[Sem.run_bind,run_underlying hu,Result.andThen_ok]
       rfl
      simp[eqGuard,binOp,Op.equal,Op.maxDepth,hq]
     ·cases c2
    ·cases h
   ·cases h
  ·cases hc
 | callk f ys chk=>
  simp only[Zc8] at hc
  split at hc
  ·rename_i c hop
   obtain⟨callee,args,ats⟩:=c
   dsimp only at hc
   split at hc
   ·simp only[aT] at hc
    obtain rfl:=nQ hc.1
    simp only[opE] at h
    exact ZC2 pre hcf hop hc.2 h hn hp
   ·cases hc
  ·cases hc
 | mkmap=>
  simp only[Zc8] at hc
  split at hc
  ·rename_i t r hop
   simp only[opE,sJ,pJ] at h
   obtain⟨rfl,rfl,rfl⟩:=h
   exact ZDq pre hop (by simpa using hc) (hn nid (Nat.le_refl _) (by simp)) hp
  ·cases hc
 | mapset ks m' k' v'=>
  simp only[Zc8] at hc
  split at hc
  ·rename_i t m k v hop
   simp only[aT] at hc
   obtain⟨c1,c2,c3,c4⟩:=hc
   simp only[opE] at h
   exact ZBa pre hop c1 c2 c3 c4 h hp
  ·cases hc
 | mapget ks z m' k'=>
  simp only[Zc8] at hc
  split at hc
  ·rename_i t m k ok hop
   simp only[aT,Bool.not_eq_true'] at hc
   obtain⟨c0,c1,c2,c3⟩:=hc
   subst c0
   simp only[opE] at h
   cases hr:Zmu Hm ks z (m'.val e) (k'.val e) with
   | none=>rw[hr] at h;cases h
   | some r=>
    rw[hr] at h
    obtain⟨rfl,rfl,rfl⟩:=ZQ h
    exact ZAH pre hop c1 c2 c3 hr hp
  ·cases hc
end
end
section
structure Sim (N:Nat) (Rf:RP) (wf:World) (e:Env) (H:Zi) (a:Act) (w:World):Prop where
 ex:∃R,Ext Rf wf R w/\R.OK w/\R.H=H/\(∀i,H.length<=i->R.M i=none)/\Zgj R w e a
 tm:N<=a.tmps.size
 df:a.defers=[]
 hl:Rf.H.length<=H.length
structure ZhA (P:Program) (G:Z1) (cf:Zac) (Rf:RP) (wf:World):Prop where
 cf:ZeF P G cf
 ok:Rf.OK wf
 g:GOK G Rf wf
 m:∀i,Rf.H.length<=i->Rf.M i=none
section
variable {P:Program} {G:Z1} {N:Nat} {Rf:RP} {wf:World} {e e':Env} {H H':Zi} {a:Act} {w:World} {Γ:Ctx} {cf:Zac}
theorem Zgj.put {R:RP} (h:Zgj R w e a) {d:Nat} (hd:d<a.tmps.size) {v:V}{u:Value} (hv:Z5 R w v u):Zgj R w (e.set d v) (a.put (some d) u):=by
 intro t
 unfold Env.set
 cases hb:Nat.beq d t with
 | true=>
  obtain rfl:=nQ hb
  simp only[cT]
  have:(a.put (some d) u).tmps.getD d undef=u:=by simp[Act.put,Array.getD_eq_getD_getElem?,hd]
  rw[this];exact hv
 | false=>
  simp only[cF]
  have hne:d≠t:=fun h=>by subst h;rw[beq_refl] at hb;cases hb
  have:(a.put (some d) u).tmps.getD t undef=a.tmps.getD t undef:=by simp[Act.put,Array.getD_eq_getD_getElem?,Array.getElem?_setIfInBounds_ne hne]
  rw[this];exact h t
def Zxw (N:Nat):Option Tmp->Option Nat->Bool
 | none,none=>true
 | some i,some j=>Nat.beq i j&&Nat.blt i N
 | _,_=>false
def ZqK (ops:Array Oper):Option (Nat×Bool)->Option (Nat×Bool)->Bool
 | none,none=>true
 | some (j,b),some (s,b')=>b==b'&&(match (ops[j]?).bind (·.dst) with | some d=>Nat.beq d s | none=>false)
 | _,_=>false
def ZnY (P:Program) (G:Z1) (N:Nat) (ops:Array Oper) (o:Oper) (p:Op1):Bool:=Zxw N o.dst p.dst&&(ZqK ops o.guard p.guard&&Zc8 P G o p.op)
def ZlN (P:Program) (G:Z1) (N:Nat) (ops:Array Oper):List Oper->List Op1->Bool
 | [],[]=>true
 | o :: os,p :: ps=>ZnY P G N ops o p&&ZlN P G N ops os ps
 | _,_=>false
theorem ZoV {R:RP} (h:Zgj R w e a) {ops:Array Oper}{o:Oper}{g:Option (Nat×Bool)} (hg:ZqK ops o.guard g=true) {b:Bool} (hw:Zb2 e g=some b):Region.wanted o (yielded ops a.tmps)=b:=by
 unfold Zb2 at hw
 unfold Region.wanted
 cases ho:o.guard with
 | none=>
  rw[ho] at hg
  cases g with
  | some q=>cases hg
  | none=>simp at hw;rw[<- hw]
 | some q=>
  obtain⟨j,bj⟩:=q
  rw[ho] at hg
  cases g with
  | none=>cases hg
  | some q=>
   obtain⟨s,b'⟩:=q
   simp only[ZqK,aT] at hg
   obtain⟨h1,h2⟩:=hg
   obtain rfl:bj=b':=by simpa using h1
   split at h2
   ·rename_i d hd
    obtain rfl:=nQ h2
    have hen:=h d
    dsimp only at hw ⊢
    unfold yielded
    rw[hd]
    simp only[bS]
    split at hw
    ·rename_i t ht
     rw[ht] at hen
     have hen':=Zui hen
     rw[Array.getD_eq_getD_getElem?] at hen'
     cases hv:a.tmps[d]? with
     | none=>rw[hv] at hen';cases hen'
     | some u=>
      rw[hv] at hen'
      simp only[Option.getD_some] at hen'
      subst hen'
      simp only[sJ] at hw
      rw[<- hw]
      cases t<;>cases bj<;>rfl
    ·rename_i ht
     rw[ht] at hen
     obtain⟨us,h3,h4⟩:=hen
     simp only[Z6] at h4
     subst h4
     rw[Array.getD_eq_getD_getElem?] at h3
     simp only[sJ] at hw
     subst hw
     cases hv:a.tmps[d]? with
     | none=>rfl
     | some u=>
      rw[hv] at h3
      simp only[Option.getD_some] at h3
      subst h3
      rfl
    ·cases hw
   ·cases h2
theorem ZlK:∀(up:List (Nat×Blk)) (H:Zi),(Zbc H up).length=H.length
 | [],H=>rfl
 | (b,blk) :: r,H=>by rw[Zbc,ZlK r,Zah,length_set]
theorem ZfA (H:Zi) (up:List (Nat×Blk)) (nw:List Blk):ZK H up H.length nw (Zbc H up++nw):=by
 intro i
 have hl:=ZlK up H
 by_cases h1:i<H.length
 ·rw[if_neg (by omega),List.getElem?_append_left (by omega)]
 ·rw[List.getElem?_append_right (by omega),hl]
  by_cases h2:i<H.length+nw.length
  ·rw[if_pos (by omega)]
  ·rw[if_neg (by omega),List.getElem?_eq_none (by omega),List.getElem?_eq_none (by omega)]
theorem Zrv {R:RP}:Z5 R w (.d (.tup [])) undef:=⟨[],rfl,rfl⟩
theorem Zq7 {d:Option Tmp}{u:Value}:(a.put d u).tmps.size=a.tmps.size:=by cases d<;>simp[Act.put]
theorem ZrZ {d:Option Tmp}{u:Value}:(a.put d u).defers=a.defers:=by cases d<;>rfl
theorem Zn7 {R:RP} (h:Zgj R w e a) {d:Option Tmp}{d':Option Nat} (hd:Zxw N d d'=true) (hN:N<=a.tmps.size) {v:V}{u:Value} (hv:Z5 R w v u):Zgj R w (Zlp e d' v) (a.put d u):=by
 cases d with
 | none=>
  cases d' with
  | none=>exact h
  | some j=>cases hd
 | some i=>
  cases d' with
  | none=>cases hd
  | some j=>
   simp only[Zxw,aT] at hd
   obtain rfl:=nQ hd.1
   refine h.put ?_ hv
   have:=hd.2;simp[Nat.blt] at this;omega
theorem Znt (c:ZhA P G cf Rf wf) {ops:Array Oper}{Q:Exit->Act->World->Prop}:∀(os:List Oper) (ps:List Op1) (e:Env) (H:Zi) (a:Act) (w:World),ZlN P G N ops os ps=true->Zd7 Γ cf ps e H=some (e',H')->Sim N Rf wf e H a w ->
  (∀a w,Sim N Rf wf e' H' a w->Q .normal a w)->wpList P ops Q os a w
 | [],[],e,H,a,w,_,h,s,hQ=>by
  simp only[Zd7,sJ,pJ] at h
  obtain⟨rfl,rfl⟩:=h
  exact hQ a w s
 | [],_ :: _,e,H,a,w,hk,_,_,_=>by cases hk
 | _ :: _,[],e,H,a,w,hk,_,_,_=>by cases hk
 | o :: os,p :: ps,e,H,a,w,hk,h,s,hQ=>by
  simp only[ZlN,ZnY,aT] at hk
  obtain⟨⟨k1,k2,k3⟩,k4⟩:=hk
  obtain⟨R,x,ok,hH,hM,hE⟩:=s.ex
  simp only[Zd7] at h
  cases hw:Zb2 e p.guard with
  | none=>rw[hw] at h;cases h
  | some b=>
   have hwant:=ZoV (a:=a) hE k2 hw
   rw[hw] at h
   cases b with
   | false=>
    dsimp only at h
    unfold wpList
    rw[hwant]
    simp only[Bool.false_eq_true,if_false]
    refine Znt c os ps _ H (a.put o.dst undef) w k4 h ⟨⟨R,x,ok,hH,hM,Zn7 hE k1 s.tm Zrv⟩,by rw[Zq7];exact s.tm,by rw[ZrZ];exact s.df,s.hl⟩ hQ
   | true=>
    dsimp only at h
    cases ho:opE Γ cf e H.length H p.op with
    | none=>rw[ho] at h;cases h
    | some q=>
     obtain⟨v,up,nw⟩:=q
     rw[ho] at h
     dsimp only at h
     unfold wpList
     rw[hwant]
     simp only[if_true]
     have pre:Pre G R w e a H:=⟨ok,x.gok c.ok.b01 c.g,hE,fun b blk hb _=>by rw[hH];exact hb⟩
     have hp:ZK R.H up H.length nw (Zbc H up++nw):=by rw[hH];exact ZfA H up nw
     refine .inl ((Zym pre c.cf k3 ho (fun i h1 _=>hM i h1) hp).wp fun u w' hpost=>?_)
     obtain⟨R',x',ok',hH',hv,hM'⟩:=hpost
     refine Znt c os ps _ _ (a.put o.dst u) w' k4 h ⟨⟨R',x.trans x',ok',hH',fun i hi=>?_,Zn7 (x'.envOK ok.b01 hE) k1 s.tm hv⟩,by rw[Zq7];exact s.tm,by rw[ZrZ];exact s.df,?_⟩ hQ
     ·rw[lA,ZlK] at hi
      exact hM' i (hM i (by omega)) (by omega)
     ·rw[lA,ZlK]
      have:=s.hl;omega
theorem ZfM (c:ZhA P G cf Rf wf) {vs:List V}{L:List Nat}{vs':List V}{H1:Zi}{R:RP} (x:Ext Rf wf R w) (ok:R.OK w) (hH:R.H=H) (hM:∀i,H.length<=i->R.M i=none) (hl:Rf.H.length<=H.length) (hx:extract Rf.H.length vs H=some (L,vs',H1)) :
  ∃R1,Ext Rf wf R1 w/\R1.OK w/\R1.H=H1/\(∀i,H1.length<=i->R1.M i=none)/\(∀us,ZY R w vs us->ZY R1 w vs' us)/\Rf.H.length<=H1.length:=by
 have hL:=Zol hx
 have le:∀b blk,nth H b=some blk->blk ≠ .dead->nth R.H b=some blk:=fun b blk h _=>by rw[hH];exact h
 have at':∀(j:Nat) blk,H1[j]? = some blk->blk ≠ .dead->∃b blk0,L[j]? = some b/\R.H[b]? = some blk0/\blk0 ≠ .dead/\blk=ZhI (fun b=>idx L b 0) blk0:=by
  intro j blk h hd
  rw[hL.h,Zrg] at h
  cases hb:L[j]? with
  | none=>rw[hb] at h;cases h
  | some b=>
   rw[hb] at h
   simp only[map_some,sJ] at h
   split at h
   ·rename_i blk0 h0
    exact⟨b,blk0,rfl,by rw[hH,<- ZI];exact h0,fun e=>hd (by rw[<- h,Ze3];exact e),h.symm⟩
   ·exact absurd h.symm hd
 let R1:RP:={ R with M:=ZcK R L,H:=H1 }
 have lv:∀c,R1.live c->R.live c:=by
  rintro c ⟨j,h1,h2⟩
  obtain⟨blk,g1,g2⟩:=Zm.1 h1
  obtain⟨b,blk0,e1,e2,e3,e4⟩:=at' j blk g1 g2
  have h2':ZcK R L j=some (some c):=h2
  rw[Za6 e1] at h2'
  exact⟨b,Zm.2 ⟨blk0,e2,e3⟩,h2'⟩
 have den:∀x u,R.den w x u->R1.den w x u:=fun x u h=>
  Zaf.change _ _ _ _ (fun b _ h=>⟨fun hl=>h.1 (lv b hl),h.2⟩) (fun b _ h=>⟨fun hl=>h.1 (lv b hl),h.2⟩) (fun b _ h hl=>h (lv b hl)) (fun _ _ _=>rfl) (Nat.le_refl _) (fun _ h=>h.1) (fun _ h=>h.1) x u h
 have ren:Ren R R1 (fun b=>idx L b 0):=by
  refine⟨fun b j m hj hm=>?_,fun b j m blk hj hm hb hd=>?_⟩
  ·show ZcK R L j=some m
   rw[Za6 (ZDw hj)];exact hm
  ·obtain⟨b',blk0,e1,e2,e3,e4⟩:=at' j blk hb hd
   rw[ZDw hj] at e1;cases e1
   refine⟨blk0,e2,?_⟩
   rw[e4,Zh3]
   exact Blk.like_refl e3
 have hlen:H1.length=L.length:=by rw[hL.h,Zok]
 have hkL:Rf.H.length<=L.length:=by
  rcases Nat.eq_zero_or_pos Rf.H.length with h | h
  ·omega
  ·have:=hL.pre (Rf.H.length-1) (by omega)
   have:=(gQ this).1
   omega
 have e1:Ext Rf wf R1 w:=by
  refine⟨?_,?_,x.b1,x.b0,x.same,x.row,x.grow,?_,x.os,x.tape,x.output⟩
  ·intro i m hm
   have hi:i<Rf.H.length:=by
    rcases lt_or_ge i Rf.H.length with h | h
    ·exact h
    ·rw[c.m i h] at hm;cases hm
   show ZcK R L i=some m
   rw[Za6 (hL.pre i hi)]
   exact x.m i m hm
  ·intro i m blk hm hi hd
   have hik:i<Rf.H.length:=by
    rcases lt_or_ge i Rf.H.length with h | h
    ·exact h
    ·rw[c.m i h] at hm;cases hm
   obtain⟨b,blk0,f1,f2,f3,f4⟩:=at' i blk hi hd
   rw[hL.pre i hik] at f1;cases f1
   obtain⟨old,g1,g2⟩:=x.h i m blk0 hm f2 f3
   exact⟨old,g1,by rw[f4,Zh3];exact g2⟩
  ·exact fun c' hc hl=>x.liv c' hc (lv c' hl)
 refine⟨R1,e1,⟨ok.b01,?_,?_,?_,?_,?_,ok.bl⟩,rfl,?_,?_,by omega⟩
 ·intro j blk h hd
  obtain⟨b,blk0,f1,f2,f3,f4⟩:=at' j blk h hd
  obtain⟨m,hm⟩:=ok.al b blk0 f2 f3
  exact⟨m,by show ZcK R L j=some m;rw[Za6 f1];exact hm⟩
 ·intro i j c' hi hj h1 h2
  obtain⟨bi,g1,g2⟩:=Zm.1 hi
  obtain⟨bj,g3,g4⟩:=Zm.1 hj
  obtain⟨b,blk0,f1,f2,f3,f4⟩:=at' i bi g1 g2
  obtain⟨b',blk0',f5,f6,f7,f8⟩:=at' j bj g3 g4
  have h1':ZcK R L i=some (some c'):=h1
  have h2':ZcK R L j=some (some c'):=h2
  rw[Za6 f1] at h1'
  rw[Za6 f5] at h2'
  have:=ok.inj b b' c' (Zm.2 ⟨blk0,f2,f3⟩) (Zm.2 ⟨blk0',f6,f7⟩) h1' h2'
  subst this
  exact hL.nodup i j b f1 f5
 ·intro j c' h
  have h':ZcK R L j=some (some c'):=h
  unfold ZcK at h'
  split at h'
  ·exact ok.lt _ c' h'
  ·cases h'
 ·intro j m blk h hm
  by_cases hd:blk = .dead
  ·subst hd;trivial
  ·obtain⟨b,blk0,f1,f2,f3,f4⟩:=at' j blk h hd
   have hm':ZcK R L j=some m:=hm
   rw[Za6 f1] at hm'
   subst f4
   exact ZqM ren Zjq (fun x u _ h=>den x u h) (fun x u _ h=>den x u h) (fun _ _ _ _=>trivial) (ok.blk b m blk0 f2 hm')
 ·intro j c' hl hm
  obtain⟨blk,g1,g2⟩:=Zm.1 hl
  obtain⟨b,blk0,f1,f2,f3,f4⟩:=at' j blk g1 g2
  have hm':ZcK R L j=some (some c'):=hm
  rw[Za6 f1] at hm'
  exact ok.nb b c' (Zm.2 ⟨blk0,f2,f3⟩) hm'
 ·intro i hi
  show ZcK R L i=none
  unfold ZcK
  rw[List.getElem?_eq_none (by omega)]
 ·intro us hus
  rw[hL.vs]
  exact Zkg ren Zjq (fun x u _ h=>den x u h) vs us (fun _ _=>trivial) hus
theorem Zrd {R:RP}{a:Act}:∀(live:List Nat) (vs:List V),ZY R w vs (live.map fun t=>a.tmps.getD t undef)->Zgj R w (ZcJ live vs) a
 | [],vs,h=>fun t=>by simp only[ZcJ];exact trivial
 | i :: is,[],h=>fun t=>by simp only[ZcJ];exact trivial
 | i :: is,v :: vs,h=>fun t=>by
  obtain⟨u,us',h1,h2,h3⟩:=h
  simp only[map_cons,List.cons.injEq] at h1
  obtain⟨rfl,rfl⟩:=h1
  simp only[ZcJ,Env.set]
  cases hb:Nat.beq i t with
  | true=>obtain rfl:=nQ hb;exact h2
  | false=>exact Zrd is vs h3 t
theorem Zr8 {R:RP} (h:Zgj R w e a):∀(live:List Nat),ZY R w (live.map e) (live.map fun t=>a.tmps.getD t undef)
 | []=>rfl
 | i :: is=>⟨_,_,rfl,h i,Zr8 h is⟩
theorem ZpX (c:ZhA P G cf Rf wf) (s:Sim N Rf wf e H a w) {live:List Nat}{L:List Nat}{vs':List V}{H1:Zi} (hx:extract Rf.H.length (live.map e) H=some (L,vs',H1)):Sim N Rf wf (ZcJ live vs') H1 a w:=by
 obtain⟨R,x,ok,hH,hM,hE⟩:=s.ex
 obtain⟨R1,x1,ok1,hH1,hM1,hv,hl⟩:=ZfM c x ok hH hM s.hl hx
 exact⟨⟨R1,x1,ok1,hH1,hM1,Zrd live vs' (hv _ (Zr8 hE live))⟩,s.tm,s.df,hl⟩
end
end
section
theorem ZpB:∀(vs:List V) (n:Nat) (blk:Blk),blk∈(ZaW n vs).2->∃sz,0<sz/\blk = .arr sz []
 | [],n,blk,h=>by simp[ZaW] at h
 | v :: vs,n,blk,h=>by
  have rest:∀n,blk∈(ZaW n vs).2->∃sz,0<sz/\blk = .arr sz []:=fun n h=>ZpB vs n blk h
  cases v<;>try exact rest n h
  rename_i sz
  simp only[ZaW] at h
  cases hs:Nat.blt 0 sz with
  | true=>
   rw[hs] at h
   simp only[cT,mem_cons] at h
   rcases h with h | h
   ·exact⟨sz,by simp[Nat.blt] at hs;omega,h⟩
   ·exact rest _ h
  | false=>rw[hs] at h;exact rest n h
section
variable {R1 R2:RP} {w:World}
theorem ZoK (hd:∀v u,Z5 R1 w v u->Z5 R2 w v u):∀(vs:List V) (us:List Value) (n:Nat),(∀(j:Nat) blk,(ZaW n vs).2[j]? = some blk->R2.H[n+j]? = some blk/\R2.M (n+j)=some none)->ZY R1 w vs us->ZY R2 w (ZaW n vs).1 us
 | [],us,n,_,h=>h
 | v :: vs,us,n,hb,h=>by
  obtain⟨u,us',h1,h2,h3⟩:=h
  have same:(ZaW n (v :: vs))=(v :: (ZaW n vs).1,(ZaW n vs).2)->ZY R2 w (ZaW n (v :: vs)).1 us:=by
   intro e
   rw[e] at hb ⊢
   exact⟨u,us',h1,hd v u h2,ZoK hd vs us' n hb h3⟩
  cases v<;>try exact same rfl
  rename_i sz
  cases hs:Nat.blt 0 sz with
  | false=>exact same (by simp only[ZaW,hs,cF])
  | true=>
   have e:ZaW n (.nilsl sz :: vs)=(.sl n sz :: (ZaW (n+1) vs).1,.arr sz [] :: (ZaW (n+1) vs).2):=by simp only[ZaW,hs,cT]
   rw[e] at hb ⊢
   obtain⟨ad,rfl⟩:=h2
   obtain⟨b1,b2⟩:=hb 0 (.arr sz []) rfl
   refine⟨_,us',h1,⟨⟨_,_,_,rfl⟩,none,by simpa using b2,fun xs hx=>?_⟩,ZoK hd vs us' (n+1) (fun j blk hj=>?_) h3⟩
   ·rw[ZI] at hx
    rw[add_zero,hx] at b1
    cases b1
    exact⟨Nat.le_refl _,ad,0,rfl,Nat.le_refl _,.inl ⟨rfl,rfl⟩⟩
   ·have:=hb (j+1) blk (by simpa using hj)
    rwa [show n+(j+1)=n+1+j by omega] at this
end
theorem Zl6:∀(H:Zi) (n:Nat),(Zbv n H).1.length=H.length/\(∀blk∈(Zbv n H).2,∃sz,0<sz/\blk = .arr sz []) /\
  ∀(i:Nat) blk,(Zbv n H).1[i]? = some blk->∃b0,H[i]? = some b0/\(blk=b0∨∃cs n',b0 = .cells cs/\blk = .cells (ZaW n' cs).1/\∀(j:Nat) x,(ZaW n' cs).2[j]? = some x->∃m,n'+j=n+m/\(Zbv n H).2[m]? = some x)
 | [],n=>⟨rfl,by simp[Zbv],fun i blk h=>by simp[Zbv] at h⟩
 | b :: H,n=>by
  have same:Zbv n (b :: H)=(b :: (Zbv n H).1,(Zbv n H).2)->(Zbv n (b :: H)).1.length=(b :: H).length/\(∀blk∈(Zbv n (b :: H)).2,∃sz,0<sz/\blk = .arr sz []) /\
    ∀(i:Nat) blk,(Zbv n (b :: H)).1[i]? = some blk->∃b0,(b :: H)[i]? = some b0/\(blk=b0∨∃cs n',b0 = .cells cs/\blk = .cells (ZaW n' cs).1/\∀(j:Nat) x,(ZaW n' cs).2[j]? = some x->∃m,n'+j=n+m/\(Zbv n (b :: H)).2[m]? = some x):=by
   intro e
   obtain⟨h1,h2,h3⟩:=Zl6 H n
   rw[e]
   refine⟨by simp[h1],h2,fun i blk h=>?_⟩
   cases i with
   | zero=>simp at h;subst h;exact⟨b,rfl,.inl rfl⟩
   | succ i=>simpa using h3 i blk (by simpa using h)
  cases b<;>try exact same rfl
  rename_i cs
  have e:Zbv n (.cells cs :: H)=(.cells (ZaW n cs).1 :: (Zbv (n+(ZaW n cs).2.length) H).1,(ZaW n cs).2++(Zbv (n+(ZaW n cs).2.length) H).2):=rfl
  obtain⟨h1,h2,h3⟩:=Zl6 H (n+(ZaW n cs).2.length)
  rw[e]
  refine⟨by simp[h1],fun blk hb=>?_,fun i blk h=>?_⟩
  ·rcases List.mem_append.1 hb with hb | hb
   ·exact ZpB cs n blk hb
   ·exact h2 blk hb
  ·cases i with
   | zero=>
    simp at h;subst h
    refine⟨_,rfl,.inr ⟨cs,n,rfl,rfl,fun j x hj=>⟨j,rfl,?_⟩⟩⟩
    rw[List.getElem?_append_left (gQ hj).1];exact hj
   | succ i=>
    obtain⟨b0,f1,f2⟩:=h3 i blk (by simpa using h)
    refine⟨b0,by simpa using f1,?_⟩
    rcases f2 with f2 | ⟨cs',n',g1,g2,g3⟩
    ·exact .inl f2
    ·refine .inr ⟨cs',n',g1,g2,fun j x hj=>?_⟩
     obtain⟨m,m1,m2⟩:=g3 j x hj
     refine⟨(ZaW n cs).2.length+m,by omega,?_⟩
     rw[List.getElem?_append_right (by omega),Nat.add_sub_cancel_left];exact m2
section
variable {P:Program} {G:Z1} {N:Nat} {Rf:RP} {wf:World} {e e':Env} {H H':Zi} {a:Act} {w:World} {Γ:Ctx} {cf:Zac}
theorem ZAL {R1:RP}{H1:Zi}{vs:List V} (ok:R1.OK w) (hH:R1.H=H1) (hM:∀i,H1.length<=i->R1.M i=none) {r q} (hr:r=ZaW H1.length vs) (hq:q=Zbv (H1.length+r.2.length) H1) :
  ∃R2,Ext R1 w R2 w/\R2.OK w/\R2.H=q.1++(r.2++q.2)/\(∀i,(q.1++(r.2++q.2)).length<=i->R2.M i=none)/\(∀us,ZY R1 w vs us->ZY R2 w r.1 us)/\H1.length<=(q.1++(r.2++q.2)).length:=by
 obtain⟨b1,b2,b3⟩:=Zl6 H1 (H1.length+r.2.length)
 rw[<- hq] at b1 b2 b3
 have b4:∀blk∈r.2,∃sz,0<sz/\blk = .arr sz []:=fun blk hb=>ZpB vs _ blk (by rw[<- hr];exact hb)
 let H2:Zi:=q.1++(r.2++q.2)
 let R2:RP:={ R1 with M:=fun i=>if H1.length<=i/\i<H2.length then some none else R1.M i,H:=H2 }
 have hlen:H2.length=H1.length+r.2.length+q.2.length:=by simp[H2,b1];omega
 have hMi:∀i,i<H1.length->R2.M i=R1.M i:=fun i hi=>if_neg (by omega)
 have hMn:∀i,H1.length<=i->i<H2.length->R2.M i=some none:=fun i h1 h2=>if_pos ⟨h1,h2⟩
 have hHi:∀i,i<H1.length->H2[i]? = q.1[i]?:=fun i hi=>List.getElem?_append_left (by omega)
 have hHn:∀i blk,H1.length<=i->H2[i]? = some blk->∃sz,0<sz/\blk = .arr sz []:=fun i blk h1 h2=>by
  rw[List.getElem?_append_right (by omega)] at h2
  rcases List.mem_append.1 (mG h2) with h | h
  ·exact b4 blk h
  ·exact b2 blk h
 have some1:∀i m,R1.M i=some m->i<H1.length:=fun i m h=>by
  rcases lt_or_ge i H1.length with h' | h'
  ·exact h'
  ·rw[hM i h'] at h;cases h
 have like:∀i blk,i<H1.length->H2[i]? = some blk->blk ≠ .dead->∃old,R1.H[i]? = some old/\old.like blk:=fun i blk hi h hd=>by
  rw[hHi i hi] at h
  obtain⟨b0,f1,f2⟩:=b3 i blk h
  refine⟨b0,by rw[hH];exact f1,?_⟩
  rcases f2 with rfl | ⟨cs,n',rfl,rfl,_⟩
  ·exact Blk.like_refl hd
  ·trivial
 have lvi:∀i,i<H1.length->ZN H2 i=true->ZN R1.H i=true:=fun i hi h=>by
  obtain⟨blk,g1,g2⟩:=Zm.1 h
  obtain⟨old,f1,f2⟩:=like i blk hi g1 g2
  exact Zm.2 ⟨old,f1,Blk.like_ne f2⟩
 have x:Ext R1 w R2 w:=by
  refine⟨fun i m hm=>by rw[hMi i (some1 i m hm)];exact hm,fun i m blk hm h hd=>like i blk (some1 i m hm) h hd,rfl,rfl,fun _ _ _=>rfl,fun _ cs el fr h=>⟨cs,el,fr,h,rfl⟩,Nat.le_refl _,?_,rfl,rfl,rfl⟩
  rintro c _ ⟨i,g1,g2⟩
  by_cases hi:i<H1.length
  ·rw[hMi i hi] at g2
   exact⟨i,lvi i hi g1,g2⟩
  ·by_cases h2:i<H2.length
   ·rw[hMn i (by omega) h2] at g2;cases g2
   ·have:R2.M i=R1.M i:=if_neg (by omega)
    rw[this,hM i (by omega)] at g2;cases g2
 have cellM:∀i c,R2.M i=some (some c)->i<H1.length/\R1.M i=some (some c):=fun i c h=>by
  by_cases hi:i<H1.length
  ·rw[hMi i hi] at h;exact⟨hi,h⟩
  ·by_cases h2:i<H2.length
   ·rw[hMn i (by omega) h2] at h;cases h
   ·have:R2.M i=R1.M i:=if_neg (by omega)
    rw[this,hM i (by omega)] at h;cases h
 have hd:∀v u,Z5 R1 w v u->Z5 R2 w v u:=fun v u h=>x.denV ok.b01 v u h
 have pos_r:∀(j:Nat) blk,r.2[j]? = some blk->R2.H[H1.length+j]? = some blk/\R2.M (H1.length+j)=some none:=fun j blk hj=>by
  have hjl:=(gQ hj).1
  refine⟨?_,hMn _ (by omega) (by omega)⟩
  show H2[H1.length+j]? = some blk
  rw[List.getElem?_append_right (by omega),b1,Nat.add_sub_cancel_left,List.getElem?_append_left hjl];exact hj
 have pos_q:∀(m:Nat) blk,q.2[m]? = some blk->R2.H[H1.length+r.2.length+m]? = some blk/\R2.M (H1.length+r.2.length+m)=some none:=fun m blk hm=>by
  have hml:=(gQ hm).1
  refine⟨?_,hMn _ (by omega) (by omega)⟩
  show H2[H1.length+r.2.length+m]? = some blk
  rw[List.getElem?_append_right (by omega),b1,List.getElem?_append_right (by omega)]
  rw[show H1.length+r.2.length+m-H1.length-r.2.length=m by omega];exact hm
 refine⟨R2,x,⟨ok.b01,?_,?_,?_,?_,?_,ok.bl⟩,rfl,?_,?_,by show H1.length<=H2.length;omega⟩
 ·intro i blk h hdd
  by_cases hi:i<H1.length
  ·obtain⟨old,f1,f2⟩:=like i blk hi h hdd
   obtain⟨m,hm⟩:=ok.al i old f1 (Blk.like_ne f2)
   exact⟨m,by rw[hMi i hi];exact hm⟩
  ·exact⟨none,hMn i (by omega) (gQ h).1⟩
 ·intro i j c hi hj g1 g2
  obtain⟨h1,h2⟩:=cellM i c g1
  obtain⟨h3,h4⟩:=cellM j c g2
  exact ok.inj i j c (lvi i h1 hi) (lvi j h3 hj) h2 h4
 ·intro i c h
  exact ok.lt i c (cellM i c h).2
 ·intro i m blk h hm
  by_cases hi:i<H1.length
  ·rw[hMi i hi] at hm
   have h':H2[i]? = some blk:=h
   rw[hHi i hi] at h'
   obtain⟨b0,f1,f2⟩:=b3 i blk h'
   have hb0:=ok.blk i m b0 (by rw[hH];exact f1) hm
   rcases f2 with rfl | ⟨cs,n',rfl,rfl,f3⟩
   ·exact x.blkOK ok.b01 (fun _ _=>rfl) hb0
   ·obtain⟨c,us,el,fr,e1,e2,e3,e4,e5⟩:=hb0
    obtain⟨us0,g1,g2⟩:=Zg8 cs (fun k v u=>us[k]? = some u/\Z5 R1 w v u) e5
    have hden:=ZoK (R2:=R2) hd cs us0 n' (fun j blk hj=>by
     obtain⟨m',m1,m2⟩:=f3 j blk hj
     rw[m1];exact pos_q m' blk m2) (Zj0 _ _ g1 fun j v u hv hu=>(g2 j v u hv hu).2)
    have hlen':(ZaW n' cs).1.length=cs.length:=by rw[<- ZcV _ _ hden];exact g1
    refine⟨c,us,el,fr,e1,e2,e3,by omega,fun k v hk=>?_⟩
    obtain⟨u,p1,p2⟩:=ZeB _ _ k v hden hk
    have hkc:k<cs.length:=by rw[<- hlen'];exact(gQ hk).1
    exact⟨u,(g2 k _ u (gE hkc) p1).1,p2⟩
  ·obtain⟨sz,s1,rfl⟩:=hHn i blk (by omega) h
   rw[hMn i (by omega) (gQ h).1] at hm
   cases hm
   exact⟨s1,by simp,.inl ⟨rfl,rfl⟩⟩
 ·intro i c hl h
  obtain⟨h1,h2⟩:=cellM i c h
  exact ok.nb i c (lvi i h1 hl) h2
 ·intro i hi
  have h2:H2.length<=i:=hi
  have:R2.M i=R1.M i:=if_neg (by omega)
  rw[this];exact hM i (by omega)
 ·intro us hus
  rw[hr]
  exact ZoK hd vs us H1.length (fun j blk hj=>pos_r j blk (by rw[hr];exact hj)) hus
theorem Zu6 (c:ZhA P G cf Rf wf) (s:Sim N Rf wf e H a w) {live:List Nat}{vs':List V}{H1:Zi} (hx:Zqs Rf.H.length (live.map e) H=some (vs',H1)):Sim N Rf wf (ZcJ live vs') H1 a w:=by
 obtain⟨R,x,ok,hH,hM,hE⟩:=s.ex
 unfold Zqs at hx
 cases he:extract Rf.H.length (live.map e) H with
 | none=>rw[he] at hx;cases hx
 | some p=>
  obtain⟨L,vs1,H0⟩:=p
  rw[he] at hx
  dsimp only at hx
  obtain⟨R1,x1,ok1,hH1,hM1,hv1,hl1⟩:=ZfM c x ok hH hM s.hl he
  obtain⟨R2,x2,ok2,hH2,hM2,hv2,hl2⟩:=ZAL (vs:=vs1) ok1 hH1 hM1 rfl rfl
  cases he2:extract Rf.H.length (ZaW H0.length vs1).1 ((Zbv (H0.length+(ZaW H0.length vs1).2.length) H0).1++((ZaW H0.length vs1).2++(Zbv (H0.length+(ZaW H0.length vs1).2.length) H0).2)) with
  | none=>rw[he2] at hx;cases hx
  | some p2=>
   obtain⟨L2,vs2,H2⟩:=p2
   rw[he2] at hx
   simp only[sJ,pJ] at hx
   obtain⟨rfl,rfl⟩:=hx
   obtain⟨R3,x3,ok3,hH3,hM3,hv3,hl3⟩:=ZfM c (x1.trans x2) ok2 hH2 hM2 (le_trans hl1 hl2) he2
   exact⟨⟨R3,x3,ok3,hH3,hM3,Zrd live _ (hv3 _ (hv2 _ (hv1 _ (Zr8 hE live))))⟩,s.tm,s.df,hl3⟩
def ZrY:List Nat->C->Bool
 | ids,.exit i=>Nat.beq i 1000 || ZhC ids i
 | ids,.seq a b=>ZrY ids a&&ZrY ids b
 | ids,.cond _ a b=>ZrY ids a&&ZrY ids b
 | ids,.block i a=>!(Nat.beq i 1000)&&ZrY (i :: ids) a
 | _,.loop _ _ _=>false
 | _,_=>true
def okG (P:Program) (G:Z1) (N:Nat) (okD:Array Oper->List Op1->Bool) (b:Code):Nat->C->Code->Bool
 | _,.skip,.skip=>true
 | _,.skip,.label _=>true
 | _,.ret,.ret=>true
 | _,.ret,.seq .ret _=>true
 | _,.exit i,.exit j=>Nat.beq i j && !(Nat.beq i 1000)
 | n,.seq p q,.seq x y=>okG P G N okD b n p x&&okG P G N okD b n q y
 | n+1,.seq p (.exit i),.goto l=>Nat.beq i 1000&&(ZrY [] p&&(match findLabel b l with | some rest=>okG P G N okD b n p rest | none=>false))
 | n,.cond y p q,.cond z u v=>Zz G z y&&(okG P G N okD b n p u&&okG P G N okD b n q v)
 | n,.block i p,.block j x=>Nat.beq i j&&(!(Nat.beq i 1000)&&okG P G N okD b n p x)
 | _,.ops l,.region _ os false=>ZlN P G N os os.toList l
 | _,.draw l,.region _ os true=>okD os l
 | _,_,_=>false
def ZER (P:Program) (G:Z1) (N:Nat) (okD:Array Oper->List Op1->Bool) (b:Code):C->Bool
 | .block i p=>Nat.beq i 1000&&okG P G N okD b 4 p b
 | _=>false
def okC (P:Program) (G:Z1) (N:Nat) (okD:Array Oper->List Op1->Bool):C->Code->Bool
 | c,.scope x=>okC P G N okD c x || ZER P G N okD x c
 | .skip,.skip=>true
 | .skip,.label _=>true
 | .ret,.ret=>true
 | .exit i,.exit j=>Nat.beq i j
 | .seq a b,.seq x y=>okC P G N okD a x&&okC P G N okD b y
 | .cond y a b,.cond z u v=>Zz G z y&&(okC P G N okD a u&&okC P G N okD b v)
 | .block i a,.block j x=>Nat.beq i j&&okC P G N okD a x
 | .loop _ _ a,.loop x=>okC P G N okD a x
 | .ops l,.region _ os false=>ZlN P G N os os.toList l
 | .draw l,.region _ os true=>okD os l
 | _,_=>false
def Zny:Ex->Exit->Prop
 | .normal,e=>e = .normal
 | .exit i,e=>e = .exit i
 | .ret,e=>e = .ret
def ZnS (P:Program) (G:Z1) (N:Nat) (Γ:Ctx) (cf:Zac) (okD:Array Oper->List Op1->Bool):Prop:=
 ∀(id:Nat) (os:Array Oper) (l:List Op1) (Rf:RP) (wf:World) (e:Env) (H:Zi) (e':Env) (H':Zi) (a:Act) (w:World),okD os l=true->ZeH Γ cf [] l e H=some (e',H')->ZhA P G cf Rf wf->Sim N Rf wf e H a w ->
  (Code.region id os true).wp P (fun ex a' w'=>ex = .normal/\Sim N Rf wf e' H' a' w') a w
def PW (P:Program) (N:Nat) (Rf:RP) (wf:World) (b:Code) (e':Env) (H':Zi):Nat->Ex->Exit->Act->World->Prop
 | 0,r,ex,a,w=>(r ≠ .exit 1000/\Zny r ex)/\Sim N Rf wf e' H' a w
 | n+1,r,ex,a,w=>((r ≠ .exit 1000/\Zny r ex)/\Sim N Rf wf e' H' a w) ∨
   ∃l rest r',ex = .goto l/\findLabel b l=some rest/\rest.wp P (PW P N Rf wf b e' H' n r') a w/\(((r' = .normal∨r' = .exit 1000)/\r = .exit 1000)∨(r' = .ret/\r = .ret))
theorem PW.fin {b:Code}{e':Env}{H':Zi}{n:Nat}{r:Ex}{ex:Exit}{a:Act}{w:World} (h1:r ≠ .exit 1000) (h2:Zny r ex) (h3:Sim N Rf wf e' H' a w):PW P N Rf wf b e' H' n r ex a w:=by
 cases n with
 | zero=>exact⟨⟨h1,h2⟩,h3⟩
 | succ n=>exact .inl ⟨⟨h1,h2⟩,h3⟩
theorem ZDf {cf:Zac}{It:(List V->Zi->Option Lp)->List V->Zi->Option (Ex×List V×Zi)}{k:Nat}:∀(p:C) (ids:List Nat) (e:Env) (H:Zi) (i:Nat) (e':Env) (H':Zi),ZrY ids p=true->ZG Γ cf It k p e H=some (.exit i,e',H')->i=1000∨ZhC ids i=true:=by
 intro p
 induction p with
 | skip=>intro ids e H i e' H' _ h;simp[ZG] at h
 | ret=>intro ids e H i e' H' _ h;simp[ZG] at h
 | exit j=>
  intro ids e H i e' H' hx h
  simp only[ZG,sJ,pJ,Ex.exit.injEq] at h
  obtain⟨rfl,_,_⟩:=h
  simp only[ZrY,Bool.or_eq_true] at hx
  rcases hx with hx | hx
  ·exact .inl (nQ hx)
  ·exact .inr hx
 | seq x y ihx ihy=>
  intro ids e H i e' H' hx h
  simp only[ZrY,aT] at hx
  simp only[ZG] at h
  cases hp:ZG Γ cf It k x e H with
  | none=>rw[hp] at h;cases h
  | some r1=>
   obtain⟨x1,e1,H1⟩:=r1
   rw[hp] at h
   cases x1 with
   | normal=>exact ihy ids e1 H1 i e' H' hx.2 h
   | exit j=>cases h;exact ihx ids e H i e' H' hx.1 hp
   | ret=>cases h
 | cond z u v ihu ihv=>
  intro ids e H i e' H' hx h
  simp only[ZrY,aT] at hx
  simp only[ZG] at h
  split at h
  ·rename_i t _
   cases t with
   | true=>exact ihu ids e H i e' H' hx.1 h
   | false=>exact ihv ids e H i e' H' hx.2 h
  ·cases h
 | block j x ih=>
  intro ids e H i e' H' hx h
  simp only[ZrY,aT] at hx
  simp only[ZG] at h
  cases hp:ZG Γ cf It k x e H with
  | none=>rw[hp] at h;cases h
  | some r1=>
   obtain⟨x1,e1,H1⟩:=r1
   rw[hp] at h
   cases x1 with
   | normal=>cases h
   | ret=>cases h
   | exit q=>
    dsimp only at h
    cases hj:Nat.beq q j with
    | true=>rw[hj] at h;cases h
    | false=>
     rw[hj] at h
     cases h
     rcases ih (j :: ids) e H i e' H' hx.2 hp with h1 | h1
     ·exact .inl h1
     ·right
      unfold ZhC at h1
      cases hb:Nat.beq j i with
      | true=>rw[nQ hb,beq_refl] at hj;cases hj
      | false=>rw[hb] at h1;exact h1
 | loop l o x ih=>intro ids e H i e' H' hx h;cases hx
 | ops l=>intro ids e H i e' H' _ h;simp only[ZG] at h;split at h<;>simp at h
 | draw l=>intro ids e H i e' H' _ h;simp only[ZG] at h;split at h<;>simp at h
theorem ZtQ (c:ZhA P G cf Rf wf) {okD:Array Oper->List Op1->Bool} (hD:ZnS P G N Γ cf okD) (m:Nat):∀(ic:C) (id:Nat) (os:Array Oper) (d:Bool) (e:Env) (H:Zi) (r:Ex) (e':Env) (H':Zi) (a:Act) (w:World),okC P G N okD ic (.region id os d)=true ->
  ZG Γ cf (fun F=>ZaR F m) Rf.H.length ic e H=some (r,e',H')->Sim N Rf wf e H a w->(Code.region id os d).wp P (fun ex a' w'=>Zny r ex/\Sim N Rf wf e' H' a' w') a w:=by
  intro ic id os d e H r e' H' a w hk h s
  cases d with
  | false=>
   cases ic<;>try (cases hk;done)
   rename_i l
   simp only[ZG] at h
   cases ho:Zd7 Γ cf l e H with
   | none=>rw[ho] at h;cases h
   | some q=>
    obtain⟨e1,H1⟩:=q
    rw[ho] at h
    cases h
    exact wp_region_list (Znt c os.toList l e H a w hk ho s fun a w s=>⟨rfl,s⟩)
  | true=>
   cases ic<;>try (cases hk;done)
   rename_i l
   simp only[ZG] at h
   cases ho:ZeH Γ cf [] l e H with
   | none=>rw[ho] at h;cases h
   | some q=>
    obtain⟨e1,H1⟩:=q
    rw[ho] at h
    cases h
    exact wp_mono (hD id os l Rf wf e H _ _ a w hk ho c s) fun ex a' w' hq=>⟨by rw[hq.1];rfl,hq.2⟩
theorem ZzX (c:ZhA P G cf Rf wf) {okD:Array Oper->List Op1->Bool} (hD:ZnS P G N Γ cf okD) (m:Nat) (b:Code):∀(ic:C) (n:Nat) (code:Code) (e:Env) (H:Zi) (r:Ex) (e':Env) (H':Zi) (a:Act) (w:World),okG P G N okD b n ic code=true ->
  ZG Γ cf (fun F=>ZaR F m) Rf.H.length ic e H=some (r,e',H')->Sim N Rf wf e H a w->code.wp P (PW P N Rf wf b e' H' n r) a w:=by
 intro ic
 induction ic with
 | skip=>
  intro n code e H r e' H' a w hk h s
  simp only[ZG,sJ,pJ] at h
  obtain⟨rfl,rfl,rfl⟩:=h
  cases code<;>first | (cases hk;done) | exact wp_skip (PW.fin (by simp) rfl s) | exact wp_label (PW.fin (by simp) rfl s)
 | ret=>
  intro n code e H r e' H' a w hk h s
  simp only[ZG,sJ,pJ] at h
  obtain⟨rfl,rfl,rfl⟩:=h
  cases code<;>first | (cases hk;done) | exact wp_ret (PW.fin (by simp) rfl s) | skip
  rename_i x y
  cases x<;>first | (cases hk;done) | exact wp_seq (wp_ret (PW.fin (by simp) rfl s))
 | exit i=>
  intro n code e H r e' H' a w hk h s
  simp only[ZG,sJ,pJ] at h
  obtain⟨rfl,rfl,rfl⟩:=h
  cases code<;>first | (cases hk;done) | skip
  simp only[okG,aT,Bool.not_eq_true'] at hk
  obtain rfl:=nQ hk.1
  refine wp_exit (PW.fin (fun h=>?_) rfl s)
  rw[Ex.exit.inj h,beq_refl] at hk
  cases hk.2
 | seq p q ihp ihq=>
  intro n code e H r e' H' a w hk h s
  cases code<;>first | (cases n<;>cases q<;>cases hk;done) | skip
  ·rename_i x y
   have hk:okG P G N okD b n p x=true/\okG P G N okD b n q y=true:=by
    have:okG P G N okD b n (.seq p q) (.seq x y)=(okG P G N okD b n p x&&okG P G N okD b n q y):=by cases n<;>cases q<;>rfl
    rw[this,aT] at hk
    exact hk
   simp only[ZG] at h
   cases hp:ZG Γ cf (fun F=>ZaR F m) Rf.H.length p e H with
   | none=>rw[hp] at h;cases h
   | some r1=>
    obtain⟨x1,e1,H1⟩:=r1
    rw[hp] at h
    refine wp_seq (wp_mono (ihp n x e H x1 e1 H1 a w hk.1 hp s) fun ex a' w' hq=>?_)
    have jump:∀(k:Nat) (l:Nat) (rest:Code) (r':Ex),n=k+1->ex = .goto l->findLabel b l=some rest->rest.wp P (PW P N Rf wf b e1 H1 k r') a' w'->(((r' = .normal∨r' = .exit 1000)/\x1 = .exit 1000)∨(r' = .ret/\x1 = .ret))->Exit.then (y.wp P (PW P N Rf wf b e' H' n r)) (PW P N Rf wf b e' H' n r) ex a' w':=by
     intro k l rest r' hn he hl hw hr
     subst hn he
     have hx:x1=r/\e1=e'/\H1=H':=by
      rcases hr with⟨_,rfl⟩ | ⟨_,rfl⟩<;>(cases h;exact⟨rfl,rfl,rfl⟩)
     obtain⟨rfl,rfl,rfl⟩:=hx
     exact .inr ⟨l,rest,r',rfl,hl,hw,hr⟩
    have fin:(x1 ≠ .exit 1000/\Zny x1 ex)->Sim N Rf wf e1 H1 a' w'->Exit.then (y.wp P (PW P N Rf wf b e' H' n r)) (PW P N Rf wf b e' H' n r) ex a' w':=by
     intro h1 h2
     cases x1 with
     | normal=>
      obtain⟨_,h1⟩:=h1
      cases h1
      exact ihq n y e1 H1 r e' H' a' w' hk.2 h h2
     | exit i=>
      obtain⟨h0,h1⟩:=h1
      cases h1
      cases h
      exact PW.fin h0 rfl h2
     | ret=>
      obtain⟨h0,h1⟩:=h1
      cases h1
      cases h
      exact PW.fin h0 rfl h2
    cases n with
    | zero=>exact fin hq.1 hq.2
    | succ n=>
     rcases hq with hq | ⟨l,rest,r',h1,h2,h3,h4⟩
     ·exact fin hq.1 hq.2
     ·exact jump n l rest r' rfl h1 h2 h3 h4
  ·rename_i l
   cases n with
   | zero=>cases q<;>cases hk
   | succ n=>
    cases q<;>first | (cases hk;done) | skip
    rename_i i
    simp only[okG,aT] at hk
    obtain⟨k1,k2,k3⟩:=hk
    obtain rfl:=nQ k1
    split at k3
    ·rename_i rest hl
     simp only[ZG] at h
     cases hp:ZG Γ cf (fun F=>ZaR F m) Rf.H.length p e H with
     | none=>rw[hp] at h;cases h
     | some r1=>
      obtain⟨x1,e1,H1⟩:=r1
      rw[hp] at h
      have hw:=ihp n rest e H x1 e1 H1 a w k3 hp s
      cases x1 with
      | normal=>
       simp only[ZG,sJ,pJ] at h
       obtain⟨rfl,rfl,rfl⟩:=h
       exact wp_goto (.inr ⟨l,rest,.normal,rfl,hl,hw,.inl ⟨.inl rfl,rfl⟩⟩)
      | ret=>
       cases h
       exact wp_goto (.inr ⟨l,rest,.ret,rfl,hl,hw,.inr ⟨rfl,rfl⟩⟩)
      | exit j=>
       cases h
       rcases ZDf p [] e H j e' H' k2 hp with rfl | h1
       ·exact wp_goto (.inr ⟨l,rest,.exit 1000,rfl,hl,hw,.inl ⟨.inr rfl,rfl⟩⟩)
       ·cases h1
    ·cases k3
 | cond y p q ihp ihq=>
  intro n code e H r e' H' a w hk h s
  cases code<;>first | (cases n<;>cases hk;done) | skip
  rename_i z u v
  have hk:Zz G z y=true/\okG P G N okD b n p u=true/\okG P G N okD b n q v=true:=by
   have:okG P G N okD b n (.cond y p q) (.cond z u v)=(Zz G z y&&(okG P G N okD b n p u&&okG P G N okD b n q v)):=by cases n<;>rfl
   rw[this] at hk
   simpa only[aT] using hk
  simp only[ZG] at h
  split at h
  ·rename_i t ht
   obtain⟨R,x,ok,hH,hM,hE⟩:=s.ex
   have hv:=Zn6 (x.gok c.ok.b01 c.g) hE hk.1
   rw[ht] at hv
   cases t with
   | true=>exact wp_cond_true (Zui hv) (ihp n u e H r e' H' a w hk.2.1 h s)
   | false=>exact wp_cond_false (Zui hv) (ihq n v e H r e' H' a w hk.2.2 h s)
  ·cases h
 | block i p ih=>
  intro n code e H r e' H' a w hk h s
  cases code<;>first | (cases n<;>cases hk;done) | skip
  rename_i j x
  have hk:Nat.beq i j=true/\Nat.beq i 1000=false/\okG P G N okD b n p x=true:=by
   have:okG P G N okD b n (.block i p) (.block j x)=(Nat.beq i j&&(!(Nat.beq i 1000)&&okG P G N okD b n p x)):=by cases n<;>rfl
   rw[this] at hk
   simpa only[aT,Bool.not_eq_true'] using hk
  obtain⟨k1,k2,k3⟩:=hk
  obtain rfl:=nQ k1
  simp only[ZG] at h
  cases hp:ZG Γ cf (fun F=>ZaR F m) Rf.H.length p e H with
  | none=>rw[hp] at h;cases h
  | some r1=>
   obtain⟨x1,e1,H1⟩:=r1
   rw[hp] at h
   refine wp_block (wp_mono (ih n x e H x1 e1 H1 a w k3 hp s) fun ex a' w' hq=>?_)
   have fin:(x1 ≠ .exit 1000/\Zny x1 ex)->Sim N Rf wf e1 H1 a' w'->Exit.inBlock i (PW P N Rf wf b e' H' n r) ex a' w':=by
    rintro ⟨h0,h1⟩ h2
    cases x1 with
    | normal=>cases h1;cases h;exact PW.fin (by simp) rfl h2
    | ret=>cases h1;cases h;exact PW.fin (by simp) rfl h2
    | exit j=>
     cases h1
     dsimp only at h
     show if j=i then _ else _
     cases hj:Nat.beq j i with
     | true=>
      rw[hj] at h
      cases h
      rw[if_pos (nQ hj)]
      exact PW.fin (by simp) rfl h2
     | false=>
      rw[hj] at h
      cases h
      rw[if_neg (fun e=>by subst e;rw[beq_refl] at hj;cases hj)]
      exact PW.fin h0 rfl h2
   cases n with
   | zero=>exact fin hq.1 hq.2
   | succ n=>
    rcases hq with hq | ⟨l,rest,r',h1,h2,h3,h4⟩
    ·exact fin hq.1 hq.2
    ·subst h1
     have hx:x1=r/\e1=e'/\H1=H':=by
      rcases h4 with⟨_,rfl⟩ | ⟨_,rfl⟩
      ·dsimp only at h
       have:Nat.beq 1000 i=false:=by
        cases hb:Nat.beq 1000 i with
        | false=>rfl
        | true=>rw[<- nQ hb,beq_refl] at k2;cases k2
       rw[this] at h
       cases h
       exact⟨rfl,rfl,rfl⟩
      ·cases h;exact⟨rfl,rfl,rfl⟩
     obtain⟨rfl,rfl,rfl⟩:=hx
     exact .inr ⟨l,rest,r',rfl,h2,h3,h4⟩
 | loop l o x ih=>
  intro n code e H r e' H' a w hk h s
  cases code<;>cases n<;>cases hk
 | ops l=>
  intro n code e H r e' H' a w hk h s
  cases code<;>first | (cases n<;>cases hk;done) | skip
  rename_i id os u
  have hk':okC P G N okD (.ops l) (.region id os u)=true:=by cases u<;>first | (cases n<;>cases hk;done) | (cases n<;>exact hk)
  refine wp_mono (ZtQ c hD m (.ops l) id os u e H r e' H' a w hk' h s) fun ex a' w' hq=>?_
  refine PW.fin (fun hr=>?_) hq.1 hq.2
  simp only[ZG] at h
  split at h<;>simp at h
  rw[hr] at h
  simp at h
 | draw l=>
  intro n code e H r e' H' a w hk h s
  cases code<;>first | (cases n<;>cases hk;done) | skip
  rename_i id os u
  have hk':okC P G N okD (.draw l) (.region id os u)=true:=by cases u<;>first | (cases n<;>cases hk;done) | (cases n<;>exact hk)
  refine wp_mono (ZtQ c hD m (.draw l) id os u e H r e' H' a w hk' h s) fun ex a' w' hq=>?_
  refine PW.fin (fun hr=>?_) hq.1 hq.2
  simp only[ZG] at h
  split at h<;>simp at h
  rw[hr] at h
  simp at h
def Zzb:Ex->Ex
 | .exit i=>bif Nat.beq i 1000 then .normal else .exit i
 | r=>r
theorem ZyM {b:Code}{e':Env}{H':Zi}:∀(n:Nat) (r:Ex) (code:Code) (a:Act) (w:World),code.wp P (PW P N Rf wf b e' H' n r) a w->∀(fr:Frame) (k:List Item) (cs:List Frame),
  ∃ex a' w',(Zny (Zzb r) ex/\Sim N Rf wf e' H' a' w')/\Arrives P (lone (fr.at a (.code code :: .inScope b :: k)) cs w) fr k cs ex a' w':=by
 have fin:∀(r:Ex) (code:Code) (a:Act) (w:World) (fr:Frame) (k:List Item) (cs:List Frame) (ex:Exit) (a1:Act) (w1:World),(r ≠ .exit 1000/\Zny r ex)->Sim N Rf wf e' H' a1 w1->Arrives P (lone (fr.at a (.code code :: .inScope b :: k)) cs w) fr (.inScope b :: k) cs ex a1 w1 ->
   ∃ex a' w',(Zny (Zzb r) ex/\Sim N Rf wf e' H' a' w')/\Arrives P (lone (fr.at a (.code code :: .inScope b :: k)) cs w) fr k cs ex a' w':=by
  intro r code a w fr k cs ex a1 w1 h1 h2 harr
  obtain⟨h0,h1⟩:=h1
  cases r with
  | normal=>cases h1;exact⟨.normal,a1,w1,⟨rfl,h2⟩,Steps.trans harr (.one step_inScope)⟩
  | ret=>cases h1;exact⟨.ret,a1,w1,⟨rfl,h2⟩,harr⟩
  | exit i=>
   cases h1
   refine⟨.exit i,a1,w1,⟨?_,h2⟩,fun k' hk=>harr k' (by simp[exitTo,hk])⟩
   have:Nat.beq i 1000=false:=by
    cases hb:Nat.beq i 1000 with
    | false=>rfl
    | true=>exact absurd (by rw[nQ hb]) h0
   show Zny (bif Nat.beq i 1000 then .normal else .exit i) (.exit i)
   rw[this]
   exact rfl
 intro n
 induction n with
 | zero=>
  intro r code a w h fr k cs
  obtain⟨ex,a1,w1,hq,harr⟩:=h fr (.inScope b :: k) cs
  exact fin r code a w fr k cs ex a1 w1 hq.1 hq.2 harr
 | succ n ih=>
  intro r code a w h fr k cs
  obtain⟨ex,a1,w1,hq,harr⟩:=h fr (.inScope b :: k) cs
  rcases hq with hq | ⟨l,rest,r',h1,h2,h3,h4⟩
  ·exact fin r code a w fr k cs ex a1 w1 hq.1 hq.2 harr
  ·subst h1
   have hg:gotoIn l (.inScope b :: k)=some (.code rest :: .inScope b :: k):=by simp[gotoIn,h2]
   obtain⟨ex2,a2,w2,q2,harr2⟩:=ih r' rest a1 w1 h3 fr k cs
   refine⟨ex2,a2,w2,⟨?_,q2.2⟩,.of_steps (harr _ hg) harr2⟩
   have e:Zzb r'=Zzb r:=by
    rcases h4 with⟨h5 | h5,rfl⟩ | ⟨h5,rfl⟩<;>subst h5<;>rfl
   rw[<- e]
   exact q2.1
theorem Zw9 {b:Code}{e':Env}{H':Zi}{n:Nat}{r:Ex}{a:Act}{w:World} (h:b.wp P (PW P N Rf wf b e' H' n r) a w):(Code.scope b).wp P (fun ex a' w'=>Zny (Zzb r) ex/\Sim N Rf wf e' H' a' w') a w:=by
 intro fr k cs
 obtain⟨ex,a1,w1,h1,h2⟩:=ZyM n r b a w h fr k cs
 exact⟨ex,a1,w1,h1,.of_steps (.one step_scope) h2⟩
theorem ZDb (c:ZhA P G cf Rf wf) {okD:Array Oper->List Op1->Bool} (hD:ZnS P G N Γ cf okD) (m:Nat):∀(code:Code) (ic:C) (e:Env) (H:Zi) (r:Ex) (e':Env) (H':Zi) (a:Act) (w:World),okC P G N okD ic code=true ->
  ZG Γ cf (fun F=>ZaR F m) Rf.H.length ic e H=some (r,e',H')->Sim N Rf wf e H a w->code.wp P (fun ex a' w'=>Zny r ex/\Sim N Rf wf e' H' a' w') a w:=by
 intro code
 induction code with
 | scope x ih=>
  intro ic e H r e' H' a w hk h s
  have hk2:okC P G N okD ic x=true∨ZER P G N okD x ic=true:=by
   rw[<- Bool.or_eq_true]
   cases ic<;>exact hk
  rcases hk2 with hk' | hk'
  rotate_left
  ·cases ic<;>try (cases hk';done)
   rename_i i p
   simp only[ZER,aT] at hk'
   obtain rfl:=nQ hk'.1
   simp only[ZG] at h
   cases hp:ZG Γ cf (fun F=>ZaR F m) Rf.H.length p e H with
   | none=>rw[hp] at h;cases h
   | some r1=>
    obtain⟨x1,e1,H1⟩:=r1
    rw[hp] at h
    have key:=Zw9 (ZzX c hD m x p 4 x e H x1 e1 H1 a w hk'.2 hp s)
    have hx:Zzb x1=r/\e1=e'/\H1=H':=by
     cases x1 with
     | normal=>cases h;exact⟨rfl,rfl,rfl⟩
     | ret=>cases h;exact⟨rfl,rfl,rfl⟩
     | exit j=>
      dsimp only at h
      show(bif Nat.beq j 1000 then Ex.normal else Ex.exit j)=r/\_
      cases hj:Nat.beq j 1000 with
      | true=>rw[hj] at h;cases h;exact⟨rfl,rfl,rfl⟩
      | false=>rw[hj] at h;cases h;exact⟨rfl,rfl,rfl⟩
    obtain⟨rfl,rfl,rfl⟩:=hx
    exact key
  refine wp_scope_straight (wp_mono (ih ic e H r e' H' a w hk' h s) fun ex a' w' hq=>?_)
  cases ex<;>first | exact hq | (cases r<;>cases hq.1)
 | skip=>
  intro ic e H r e' H' a w hk h s
  cases ic<;>try (cases hk;done)
  simp only[ZG,sJ,pJ] at h
  obtain⟨rfl,rfl,rfl⟩:=h
  exact wp_skip ⟨rfl,s⟩
 | label l=>
  intro ic e H r e' H' a w hk h s
  cases ic<;>try (cases hk;done)
  simp only[ZG,sJ,pJ] at h
  obtain⟨rfl,rfl,rfl⟩:=h
  exact wp_label ⟨rfl,s⟩
 | ret=>
  intro ic e H r e' H' a w hk h s
  cases ic<;>try (cases hk;done)
  simp only[ZG,sJ,pJ] at h
  obtain⟨rfl,rfl,rfl⟩:=h
  exact wp_ret ⟨rfl,s⟩
 | exit id=>
  intro ic e H r e' H' a w hk h s
  cases ic<;>try (cases hk;done)
  obtain rfl:=nQ hk
  simp only[ZG,sJ,pJ] at h
  obtain⟨rfl,rfl,rfl⟩:=h
  exact wp_exit ⟨rfl,s⟩
 | seq x y ihx ihy=>
  intro ic e H r e' H' a w hk h s
  cases ic<;>try (cases hk;done)
  rename_i p q
  simp only[okC,aT] at hk
  simp only[ZG] at h
  cases hp:ZG Γ cf (fun F=>ZaR F m) Rf.H.length p e H with
  | none=>rw[hp] at h;cases h
  | some r1=>
   obtain⟨x1,e1,H1⟩:=r1
   rw[hp] at h
   refine wp_seq (wp_mono (ihx p e H x1 e1 H1 a w hk.1 hp s) fun ex a' w' hq=>?_)
   cases x1 with
   | normal=>
    obtain⟨h1,h2⟩:=hq
    cases h1
    exact ihy q e1 H1 r e' H' a' w' hk.2 h h2
   | exit i=>
    obtain⟨h1,h2⟩:=hq
    cases h1
    cases h
    exact⟨rfl,h2⟩
   | ret=>
    obtain⟨h1,h2⟩:=hq
    cases h1
    cases h
    exact⟨rfl,h2⟩
 | cond z u v ihu ihv=>
  intro ic e H r e' H' a w hk h s
  cases ic<;>try (cases hk;done)
  rename_i y p q
  simp only[okC,aT] at hk
  simp only[ZG] at h
  split at h
  ·rename_i t ht
   obtain⟨R,x,ok,hH,hM,hE⟩:=s.ex
   have hv:=Zn6 (x.gok c.ok.b01 c.g) hE hk.1
   rw[ht] at hv
   cases t with
   | true=>exact wp_cond_true (Zui hv) (ihu p e H r e' H' a w hk.2.1 h s)
   | false=>exact wp_cond_false (Zui hv) (ihv q e H r e' H' a w hk.2.2 h s)
  ·cases h
 | block id x ih=>
  intro ic e H r e' H' a w hk h s
  cases ic<;>try (cases hk;done)
  rename_i i p
  simp only[okC,aT] at hk
  obtain rfl:=nQ hk.1
  simp only[ZG] at h
  cases hp:ZG Γ cf (fun F=>ZaR F m) Rf.H.length p e H with
  | none=>rw[hp] at h;cases h
  | some r1=>
   obtain⟨x1,e1,H1⟩:=r1
   rw[hp] at h
   refine wp_block (wp_mono (ih p e H x1 e1 H1 a w hk.2 hp s) fun ex a' w' hq=>?_)
   obtain⟨h1,h2⟩:=hq
   cases x1 with
   | normal=>cases h1;cases h;exact⟨rfl,h2⟩
   | ret=>cases h1;cases h;exact⟨rfl,h2⟩
   | exit j=>
    cases h1
    dsimp only at h
    show if j=i then _ else _
    cases hj:Nat.beq j i with
    | true=>
     rw[hj] at h
     cases h
     rw[if_pos (nQ hj)]
     exact⟨rfl,h2⟩
    | false=>
     rw[hj] at h
     cases h
     rw[if_neg (fun e=>by subst e;rw[beq_refl] at hj;cases hj)]
     exact⟨rfl,h2⟩
 | loop x ih=>
  intro ic e H r e' H' a w hk h s
  cases ic<;>try (cases hk;done)
  rename_i live outs p
  have hk':okC P G N okD p x=true:=hk
  simp only[ZG] at h
  cases hh:Zqs Rf.H.length (live.map e) H with
  | none=>rw[hh] at h;cases h
  | some q=>
   obtain⟨vs,H1⟩:=q
   rw[hh] at h
   dsimp only at h
   split at h
   ·rename_i x1 vs1 H2 hit
    simp only[sJ,pJ] at h
    obtain⟨rfl,rfl,rfl⟩:=h
    have key:∀(n:Nat) (vs:List V) (H1:Zi) (a:Act) (w:World),ZaR (fun vs H=>ZdE Rf.H.length live outs (ZG Γ cf (fun F=>ZaR F m) Rf.H.length p (ZcJ live vs) H)) n vs H1=some (x1,vs1,H2)->Sim N Rf wf (ZcJ live vs) H1 a w ->
      Code.rounds P x (fun ex a' w'=>Zny x1 ex/\Sim N Rf wf (ZcJ outs vs1) H2 a' w') n a w:=by
     intro n
     induction n with
     | zero=>intro vs H1 a w h _;cases h
     | succ n ihn=>
      intro vs H1 a w h s
      rw[rounds_succ]
      simp only[ZaR] at h
      cases hb:ZG Γ cf (fun F=>ZaR F m) Rf.H.length p (ZcJ live vs) H1 with
      | none=>rw[hb] at h;cases h
      | some r1=>
       obtain⟨x2,e2,H3⟩:=r1
       rw[hb] at h
       refine wp_mono (ih p (ZcJ live vs) H1 x2 e2 H3 a w hk' hb s) fun ex a' w' hq=>?_
       obtain⟨h1,h2⟩:=hq
       cases x2 with
       | normal=>
        cases h1
        simp only[ZdE] at h
        cases hd:Zqs Rf.H.length (live.map e2) H3 with
        | none=>rw[hd] at h;cases h
        | some q=>
         obtain⟨vs2,H4⟩:=q
         rw[hd] at h
         exact ihn vs2 H4 a' w' h (Zu6 c h2 hd)
       | exit i=>
        cases h1
        simp only[ZdE] at h
        cases hd:extract Rf.H.length (outs.map e2) H3 with
        | none=>rw[hd] at h;cases h
        | some q=>
         obtain⟨L,vs2,H4⟩:=q
         rw[hd] at h
         cases h
         exact⟨rfl,ZpX c h2 hd⟩
       | ret=>
        cases h1
        simp only[ZdE] at h
        cases hd:extract Rf.H.length (outs.map e2) H3 with
        | none=>rw[hd] at h;cases h
        | some q=>
         obtain⟨L,vs2,H4⟩:=q
         rw[hd] at h
         cases h
         exact⟨rfl,ZpX c h2 hd⟩
    exact wp_loop_rounds m (key m vs H1 a w hit (Zu6 c s hh))
   ·cases h
 | region id os d=>
  intro ic e H r e' H' a w hk h s
  cases d with
  | false=>
   cases ic<;>try (cases hk;done)
   rename_i l
   simp only[ZG] at h
   cases ho:Zd7 Γ cf l e H with
   | none=>rw[ho] at h;cases h
   | some q=>
    obtain⟨e1,H1⟩:=q
    rw[ho] at h
    cases h
    exact wp_region_list (Znt c os.toList l e H a w hk ho s fun a w s=>⟨rfl,s⟩)
  | true=>
   cases ic<;>try (cases hk;done)
   rename_i l
   simp only[ZG] at h
   cases ho:ZeH Γ cf [] l e H with
   | none=>rw[ho] at h;cases h
   | some q=>
    obtain⟨e1,H1⟩:=q
    rw[ho] at h
    cases h
    exact wp_mono (hD id os l Rf wf e H _ _ a w hk ho c s) fun ex a' w' hq=>⟨by rw[hq.1];rfl,hq.2⟩
 | rangeFunc f ps x y ihx ihy=>
  intro ic e H r e' H' a w hk h s
  cases ic<;>cases hk
 | goto l=>
  intro ic e H r e' H' a w hk h s
  cases ic<;>cases hk
 | refuse why=>
  intro ic e H r e' H' a w hk h s
  cases ic<;>cases hk
end
end
end Go.Proofs.YtgcfmiajkbbmeaaGreatE
