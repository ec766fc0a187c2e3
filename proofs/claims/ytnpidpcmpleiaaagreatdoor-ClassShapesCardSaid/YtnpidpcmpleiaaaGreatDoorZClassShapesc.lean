/- ClassShapes: part 3 of 7 of the proof. -/
import Derived.Test.YtnpidpcmpleiaaaGreatDoorZClassShapesb
import Derived.KernelRfl
import Derived.ChangeArms
import Derived.Deep.Slices
import Derived.ChangeOld
import Derived.WideShapes
import Derived.FnData
import Derived.MakeChecks
import Derived.LaidMore
import Derived.OpenShut
set_option maxRecDepth 100000
set_option maxHeartbeats 40000000
set_option linter.unusedVariables false
set_option linter.unusedSimpArgs false
namespace Go.Proofs.YtnpidpcmpleiaaaGreatDoorE
open Go
open Go.IntKind (u64 i64 u32 i32 u8)
def ZbD (p:Op1):Nat:=match p.eff with | 0=>bif Zy1 p.op then 0 else bif Zyh p.op then 1 else 2 | 1=>1 | 3=>3 | _=>4
def ZwC (p:Op1):Bool:=match p.eff with | 3=>(match p.op with | .store _ _ _=>true | .storek _ _ _ _=>true | .append _ _ _=>true | _=>false) | _=>true
def Zwo (p:Op1):Bool:=match p.eff with | 1=>(match p.op,p.guard with | .load _ _ (.t _),none=>true | _,_=>false) | _=>true
def Zv5:List Opd→Nat→Bool
  | [],_=>false
  | .t i :: l,s=>Nat.beq i s || Zv5 l s
  | _ :: l,s=>Zv5 l s
def ZAv (p q:Op1):Bool:=match p.op,q.op with | .callk _ _ chk,.load 1 false (.t s)=>Zv5 chk s | .storek _ _ _ chk,.load _ _ (.t s)=>Zv5 chk s | _,_=>false
def ZBA:Opd→Option Nat
  | .t i=>some i
  | .c _=>none
def Ze8 (p:Op1):List Nat:=(ZxA p.op).filterMap ZBA++(match p.guard with | some (s,_)=>[s] | none=>[])
structure Row where
  p:Op1
  c:Nat
  s:List Nat
  b:Nat
def ZwP (i:Nat) (p:Row) (j:Nat) (q:Row):Bool:=
  Nat.ble p.c 2 || (Nat.beq i j || (tb q.b i || (tb p.b j || (Nat.beq q.c 0 || ((Nat.beq q.c 1&&(Nat.beq p.c 3 && !(Nat.beq q.p.eff 1))) || (Nat.beq q.p.eff 1&&(Nat.blt j i&&ZAv p.p q.p)))))))
def ZDj (p q:Op1):Bool:=match p.dst,q.dst with | some a,some b=>!(Nat.beq a b) | _,_=>true
def ZrT (i:Nat) (p q:Row):Bool:=ZDj p.p q.p&&(Nat.ble 3 q.c || (tb q.b i || Zj4 q.p.mask i))
def ZuC (i:Nat) (p:Row) (j:Nat) (q:Row):Bool:=match p.p.dst with | some d=>tb q.b i || (!(Zj4 q.s d) || (tb p.b j || Nat.beq i j)) | none=>true
def ZwS (i:Nat) (p:Row) (j:Nat) (q:Row):Bool:=!(Nat.beq q.p.eff 1) || (Nat.blt i j || (match p.p.dst with | some d=>!(Zj4 q.s d) | none=>true))
def ZyC {α:Type} (f:Nat→α→Bool):Nat→List α→Bool
  | _,[]=>true
  | i,a :: l=>f i a&&ZyC f (i+1) l
theorem Zja {α:Type}{f:Nat→α→Bool}:∀(l:List α) (k:Nat),ZyC f k l=true→∀(i:Nat) a,l[i]? = some a→f (k+i) a=true
  | [],k,_,i,a,h=>by simp at h
  | x :: l,k,hk,i,a,h=>by
    simp only[ZyC,Bool.and_eq_true] at hk
    cases i with
    | zero=>simp at h;subst h;exact hk.1
    | succ i=>
      have:=Zja l (k+1) hk.2 i a (by simpa using h)
      rwa [show k+1+i=k+(i+1) by omega] at this
def Zr3:List Op1→List Nat→List Row
  | p :: l,b :: bs=>⟨p,ZbD p,Ze8 p,b⟩ :: Zr3 l bs
  | _,_=>[]
theorem ZmI:∀(l:List Op1) (bs:List Nat) (j:Nat) (p:Op1) (b:Nat),l[j]? = some p→bs[j]? = some b→(Zr3 l bs)[j]? = some ⟨p,ZbD p,Ze8 p,b⟩
  | [],bs,j,p,b,h,_=>by simp at h
  | _ :: _,[],j,p,b,_,h=>by simp at h
  | x :: l,y :: bs,0,p,b,h1,h2=>by simp at h1 h2;subst h1;subst h2;rfl
  | x :: l,y :: bs,j+1,p,b,h1,h2=>by simpa [Zr3] using ZmI l bs j p b (by simpa using h1) (by simpa using h2)
def ZI (P:Program) (G:Zcu) (N:Nat) (os:Array Oper) (l:List Op1):Bool:=
  P.follows .mixedOrders&&(Zrq P G N os os.toList l&&(ZyC (fun j o=>(ZqC o).all fun i=>Nat.blt i j) 0 os.toList &&
    (let rows:=Zr3 l (ZpK os.toList)
     ZyC (fun j q=>(ZwC q.p&&(Zwo q.p&&(Nat.ble q.c 2 || q.p.mask.isEmpty)))&&ZyC (fun i p=>ZwP i p j q&&(ZuC i p j q&&(ZwS i p j q&&(!(Nat.blt i j) || ZrT i p q)))) 0 rows) 0 rows)))
structure Chk (P:Program) (G:Zcu) (N:Nat) (os:Array Oper) (l:List Op1) (B:Nat→Nat→Prop):Prop where
  mixed:P.follows .mixedOrders=true
  oper:∀(j:Nat) o p,os[j]? = some o→l[j]? = some p→Ztb P G N os o p=true
  len:os.size=l.length
  pre:∀(j:Nat) o,os[j]? = some o→∀i∈ZqC o,i<j
  bef:∀(j:Nat) o k,os[j]? = some o→B k j→∃i∈ZqC o,k=i∨(i<j∧B k i)
  pair:∀(i j:Nat) p q,l[i]? = some p→l[j]? = some q→3≤ZbD p→i=j∨B i j∨B j i∨ZbD q=0∨(ZbD q=1∧ZbD p=3∧q.eff≠1)∨(q.eff=1∧j<i∧ZAv p q=true)
  dst:∀(i j:Nat) p q d,l[i]? = some p→l[j]? = some q→p.dst=some d→q.dst=some d→i=j
  early:∀(i j:Nat) p q,l[i]? = some p→l[j]? = some q→i<j→3≤ZbD q∨B i j∨i∈q.mask
  reads:∀(i j:Nat) p q d,l[i]? = some p→l[j]? = some q→p.dst=some d→d∈Ze8 q→B i j∨B j i∨i=j
  eff3:∀(j:Nat) q,l[j]? = some q→ZwC q=true
  mask:∀(j:Nat) q,l[j]? = some q→3≤ZbD q→q.mask=[]
  eff1:∀(j:Nat) q,l[j]? = some q→Zwo q=true
  stay:∀(i j:Nat) p q d,l[i]? = some p→l[j]? = some q→q.eff=1→j≤i→p.dst=some d→¬d∈Ze8 q
theorem Zqi:∀(l:List Nat) (b:Nat),Zj4 l b=true↔b∈l
  | [],b=>by simp[Zj4]
  | a :: l,b=>by
    simp only[Zj4]
    cases h:Nat.beq a b with
    | true=>obtain rfl:=Nat.eq_of_beq_eq_true h;simp
    | false=>
      have hne:¬b=a:=fun h'=>by subst h';rw[Nat.beq_refl] at h;cases h
      simp[Zqi l b,hne]
theorem ZtE {P:Program}{G:Zcu}{N:Nat}{ops:Array Oper}:∀(os:List Oper) (l:List Op1),Zrq P G N ops os l=true→os.length=l.length∧∀(j:Nat) o p,os[j]? = some o→l[j]? = some p→Ztb P G N ops o p=true
  | [],[],_=>⟨rfl,fun j o p h=>by simp at h⟩
  | [],_ :: _,h=>by cases h
  | _ :: _,[],h=>by cases h
  | o :: os,p :: l,h=>by
    simp only[Zrq,Bool.and_eq_true] at h
    obtain⟨h1,h2⟩:=ZtE os l h.2
    refine⟨by simp[h1],fun j o' p' ho hp=>?_⟩
    cases j with
    | zero=>simp at ho hp;subst ho;subst hp;exact h.1
    | succ j=>exact h2 j o' p' (by simpa using ho) (by simpa using hp)
theorem Zw2 {P:Program}{G:Zcu}{N:Nat}{os:Array Oper}{l:List Op1} (h:ZI P G N os l=true):∃B,Chk P G N os l B:=by
  unfold ZI at h
  simp only[Bool.and_eq_true] at h
  obtain⟨h1,h2,h3,h4⟩:=h
  obtain⟨l1,l2⟩:=ZtE _ _ h2
  have bl:(ZpK os.toList).length=l.length:=by
    have:=(Znz os.toList []).1
    rw[show ZlE [] os.toList=ZpK os.toList from rfl] at this
    rw[this,l1];simp
  have row:∀(j:Nat) p,l[j]? = some p→∃b,(ZpK os.toList)[j]? = some b∧(Zr3 l (ZpK os.toList))[j]? = some ⟨p,ZbD p,Ze8 p,b⟩:=fun j p hp=>by
    have hj:=(List.getElem?_eq_some_iff.1 hp).1
    refine⟨(ZpK os.toList)[j]'(by omega),List.getElem?_eq_getElem (by omega),ZmI _ _ _ _ _ hp (List.getElem?_eq_getElem (by omega))⟩
  have pairs:∀(i j:Nat) p q bp bq,l[i]? = some p→l[j]? = some q→(ZpK os.toList)[i]? = some bp→(ZpK os.toList)[j]? = some bq →
      ZwP i ⟨p,ZbD p,Ze8 p,bp⟩ j ⟨q,ZbD q,Ze8 q,bq⟩=true∧ZuC i ⟨p,ZbD p,Ze8 p,bp⟩ j ⟨q,ZbD q,Ze8 q,bq⟩=true∧ZwS i ⟨p,ZbD p,Ze8 p,bp⟩ j ⟨q,ZbD q,Ze8 q,bq⟩=true∧(i<j→ZrT i ⟨p,ZbD p,Ze8 p,bp⟩ ⟨q,ZbD q,Ze8 q,bq⟩=true):=fun i j p q bp bq hp hq e1 e2=>by
    have a1:=Zja _ _ h4 j _ (ZmI _ _ _ _ _ hq e2)
    simp only[Bool.and_eq_true,Nat.zero_add] at a1
    have a2:=Zja _ _ a1.2 i _ (ZmI _ _ _ _ _ hp e1)
    simp only[Bool.and_eq_true,Nat.zero_add,Bool.or_eq_true,Bool.not_eq_true'] at a2
    refine⟨a2.1,a2.2.1,a2.2.2.1,fun hij=>?_⟩
    rcases a2.2.2.2 with a3 | a3
    · rw[show Nat.blt i j=Nat.ble (i+1) j from rfl,Nat.ble_eq_true_of_le hij] at a3;cases a3
    · exact a3
  refine⟨fun i j=>∃b,(ZpK os.toList)[j]? = some b∧tb b i=true,h1,fun j o p ho hp=>l2 j o p (by simpa using ho) hp,by simpa using l1,fun j o ho i hi=>?_,fun j o k ho ⟨b,e1,e2⟩=>?_,fun i j p q hp hq hc=>?_,fun i j p q d hp hq hd hd'=>?_,fun i j p q hp hq hij=>?_,fun i j p q d hp hq hd hs=>?_,fun j q hq=>?_,fun j q hq hc=>?_,fun j q hq=>?_,fun i j p q d hp hq he hij hd=>?_⟩
  · have a1:=Zja _ _ h3 j o (by simpa using ho)
    simp only[List.all_eq_true,Nat.zero_add] at a1
    have:=a1 i hi
    simp[Nat.blt] at this;omega
  · obtain⟨i,f1,f2⟩:=ZyL (by simpa using ho) e1 e2
    exact⟨i,f1,f2⟩
  · obtain⟨bp,e1,_⟩:=row i p hp
    obtain⟨bq,e2,_⟩:=row j q hq
    have a:=(pairs i j p q bp bq hp hq e1 e2).1
    simp only[ZwP,Bool.or_eq_true,Bool.and_eq_true,Nat.ble_eq] at a
    rcases a with a | a | a | a | a | a
    · omega
    · exact .inl (Nat.eq_of_beq_eq_true a)
    · exact .inr (.inl ⟨bq,e2,a⟩)
    · exact .inr (.inr (.inl ⟨bp,e1,a⟩))
    · exact .inr (.inr (.inr (.inl (Nat.eq_of_beq_eq_true a))))
    · rcases a with a | a
      · refine .inr (.inr (.inr (.inr (.inl ⟨Nat.eq_of_beq_eq_true a.1,Nat.eq_of_beq_eq_true a.2.1,fun h=>?_⟩))))
        rw[h] at a
        exact absurd a.2.2 (by decide)
      · refine .inr (.inr (.inr (.inr (.inr ⟨Nat.eq_of_beq_eq_true a.1,?_,a.2.2⟩))))
        have:=a.2.1
        simp[Nat.blt] at this;omega
  · obtain⟨bp,e1,_⟩:=row i p hp
    obtain⟨bq,e2,_⟩:=row j q hq
    have key:∀(i j:Nat) p q bp bq,l[i]? = some p→l[j]? = some q→(ZpK os.toList)[i]? = some bp→(ZpK os.toList)[j]? = some bq→p.dst=some d→q.dst=some d→¬i<j:=fun i j p q bp bq hp hq e1 e2 hd hd' hlt=>by
      have a:=(pairs i j p q bp bq hp hq e1 e2).2.2.2 hlt
      simp[ZrT,ZDj,hd,hd'] at a
    have k1:=key i j p q bp bq hp hq e1 e2 hd hd'
    have k2:=key j i q p bq bp hq hp e2 e1 hd' hd
    omega
  · obtain⟨bp,e1,_⟩:=row i p hp
    obtain⟨bq,e2,_⟩:=row j q hq
    have a:=(pairs i j p q bp bq hp hq e1 e2).2.2.2 hij
    simp only[ZrT,Bool.or_eq_true,Bool.and_eq_true,Nat.ble_eq] at a
    rcases a.2 with a | a | a
    · exact .inl a
    · exact .inr (.inl ⟨bq,e2,a⟩)
    · exact .inr (.inr ((Zqi _ _).1 a))
  · obtain⟨bp,e1,_⟩:=row i p hp
    obtain⟨bq,e2,_⟩:=row j q hq
    have a:=(pairs i j p q bp bq hp hq e1 e2).2.1
    simp only[ZuC,hd,Bool.or_eq_true,Bool.not_eq_true'] at a
    rcases a with a | a | a | a
    · exact .inl ⟨bq,e2,a⟩
    · rw[(Zqi _ _).2 hs] at a;cases a
    · exact .inr (.inl ⟨bp,e1,a⟩)
    · exact .inr (.inr (Nat.eq_of_beq_eq_true a))
  · obtain⟨bq,e2,e3⟩:=row j q hq
    have a1:=Zja _ _ h4 j _ e3
    simp only[Bool.and_eq_true] at a1
    exact a1.1.1
  · obtain⟨bq,e2,e3⟩:=row j q hq
    have a1:=Zja _ _ h4 j _ e3
    simp only[Bool.and_eq_true,Bool.or_eq_true,Nat.ble_eq,List.isEmpty_iff] at a1
    rcases a1.1.2.2 with a2 | a2
    · omega
    · exact a2
  · obtain⟨bq,e2,e3⟩:=row j q hq
    have a1:=Zja _ _ h4 j _ e3
    simp only[Bool.and_eq_true] at a1
    exact a1.1.2.1
  · obtain⟨bp,e1,_⟩:=row i p hp
    obtain⟨bq,e2,_⟩:=row j q hq
    have a:=(pairs i j p q bp bq hp hq e1 e2).2.2.1
    simp only[ZwS,hd,he,Nat.beq_refl,Bool.not_true,Bool.false_or,Bool.or_eq_true,Bool.not_eq_true'] at a
    intro hs
    rcases a with a | a
    · simp[Nat.blt] at a;omega
    · rw[(Zqi _ _).2 hs] at a;cases a
theorem Zug:∀(n:Nat) (H:Zs) (b i:Nat) (blk:Blk),(ZAs H b n)[i]? = some blk→blk ≠ .dead→H[i]? = some blk∧¬(b≤i∧i<b+n)
  | 0,H,b,i,blk,h,_=>⟨h,by omega⟩
  | n+1,H,b,i,blk,h,hd=>by
    obtain⟨h1,h2⟩:=Zug n _ _ i blk h hd
    rw[ZcK,List.getElem?_set] at h1
    by_cases hbi:b=i
    · rw[if_pos hbi] at h1
      split at h1
      · cases h1;exact absurd rfl hd
      · cases h1
    · rw[if_neg hbi] at h1
      exact⟨h1,by omega⟩
theorem Zq7 (pos:List (Nat×Nat)):∀(mask:List Nat) (H:Zs) (i:Nat) (blk:Blk),(ZiV H pos mask)[i]? = some blk→blk ≠ .dead→H[i]? = some blk∧∀m∈mask,∀b n,pos[m]? = some (b,n)→¬(b≤i∧i<b+n)
  | [],H,i,blk,h,_=>⟨h,by simp⟩
  | m :: mask,H,i,blk,h,hd=>by
    simp only[ZiV] at h
    rw[Zaw] at h
    cases hp:pos[m]? with
    | none=>
      rw[hp] at h
      obtain⟨h1,h2⟩:=Zq7 pos mask H i blk h hd
      refine⟨h1,fun k hk b n hb=>?_⟩
      rcases List.mem_cons.1 hk with rfl | hk
      · rw[hp] at hb;cases hb
      · exact h2 k hk b n hb
    | some q=>
      obtain⟨b0,n0⟩:=q
      rw[hp] at h
      obtain⟨h1,h2⟩:=Zq7 pos mask _ i blk h hd
      obtain⟨h3,h4⟩:=Zug n0 H b0 i blk h1 hd
      refine⟨h3,fun k hk b n hb=>?_⟩
      rcases List.mem_cons.1 hk with rfl | hk
      · rw[hp] at hb;cases hb;exact h4
      · exact h2 k hk b n hb
theorem Blk.like_symm {a b:Blk} (h:a.like b):b.like a:=by
  cases a<;>cases b<;>simp_all [Blk.like]
theorem Zvj {Γ:Ctx}{cf:Zcl}{e:Env}{nid:Nat}{H:Zs}{op:O}{v:V}{up:List (Nat×Blk)}{nw:List Blk} (hc:Zy1 op=true∨Zyh op=true) (h:opE Γ cf e nid H op=some (v,up,nw)):nw=[]:=by
  have key:∀(x:Option V),(match x with | some v=>ZeH v | none=>none)=some (v,up,nw)→nw=[]:=fun x h=>by
    cases x with
    | none=>cases h
    | some y=>exact(Zba h).2.2
  have keyD:∀(x:Option D),(match x with | some r=>ZeH (.d r) | none=>none)=some (v,up,nw)→nw=[]:=fun x h=>by
    cases x with
    | none=>cases h
    | some y=>exact(Zba h).2.2
  cases op<;>first | (rcases hc with hc | hc<;>cases hc;done) | skip
  case mov x=>exact(Zba h).2.2
  case mkfn f caps=>exact(Zba h).2.2
  case bslice sz z len ps=>
    cases len with
    | zero=>simp only[opE] at h;split at h<;>first | exact(Zba h).2.2 | (cases h;done) | skip
    | succ n=>rcases hc with hc | hc<;>cases hc
  case build z ps=>simp only[opE] at h;split at h<;>first | exact(Zba h).2.2 | cases h
  case pick c a b=>simp only[opE] at h;split at h<;>first | exact(Zba h).2.2 | cases h
  case conv k x=>simp only[opE] at h;split at h<;>first | exact(Zba h).2.2 | cases h
  case eqv ks neg x y=>
    simp only[opE] at h
    split at h
    · split at h
      · split at h
        · exact(Zba h).2.2
        · cases h
      · cases h
    · cases h
  case field off n ag x=>
    simp only[opE] at h
    split at h
    · exact key _ h
    · exact key _ h
    · cases h
  case extract x i=>
    simp only[opE] at h
    split at h
    · exact key _ h
    · split at h<;>first | exact(Zba h).2.2 | cases h
    · cases h
  all_goals (simp only[opE] at h;first | exact key _ h | exact keyD _ h)
theorem ZyZ {Γ:Ctx}{cf:Zcl}{e:Env}{nid:Nat}{H:Zs}{op:O}{v:V}{up:List (Nat×Blk)}{nw:List Blk} (hs:(∃n x y,op = .store n x y∨∃k,op = .storek n x y k)∨∃sz x y,op = .append sz x y) (h:opE Γ cf e nid H op=some (v,up,nw)) (hu:Zr6 3 up nw=true) :
    nw=[]∧(up=[]∨∃b blk old,up=[(b,blk)]∧H[b]? = some old∧old.like blk):=by
  simp only[Zr6,Bool.and_eq_true,List.isEmpty_iff] at hu
  obtain⟨hu,rfl⟩:=hu
  refine⟨rfl,?_⟩
  rcases hs with⟨n,x,y,hs⟩ | ⟨sz,x,y,rfl⟩
  · have h:ZmB H n (x.val e) (y.val e)=some (v,up,[]):=by rcases hs with rfl | ⟨k,rfl⟩<;>exact h
    unfold ZmB at h
    split at h
    · rename_i b o _
      split at h
      · rename_i cs hb
        cases hc:(Nat.beq (y.val e).cells.length n&&Nat.ble (o+n) cs.length&&(y.val e).okb&&Zun (y.val e).cells) with
        | false=>rw[hc] at h;cases h
        | true=>
          rw[hc] at h
          simp only[cond_true,Option.some.injEq,Prod.mk.injEq] at h
          obtain⟨rfl,rfl,_⟩:=h
          exact .inr ⟨_,_,.cells cs,rfl,by rw[← Zaw];exact hb,trivial⟩
      · cases h
    · rename_i b sz i k _
      split at h
      · rename_i sz' xs hb
        cases hq:Nat.beq sz sz' with
        | false=>rw[hq] at h;cases h
        | true=>
          obtain rfl:=Nat.eq_of_beq_eq_true hq
          rw[hq] at h
          simp only[cond_true] at h
          split at h
          · rename_i x0 y0 ks h1 h2
            cases he:Zj4 ks b with
            | true=>rw[he] at h;cases h
            | false=>
              rw[he] at h
              simp only[cond_false] at h
              cases hc:(Nat.beq y0.cells.length n&&Nat.ble (k+n) x0.cells.length&&(V.d y0).okb&&(x0.isAgg || !y0.isAgg)) with
              | false=>rw[hc] at h;cases h
              | true=>
                rw[hc] at h
                simp only[cond_true,Option.some.injEq,Prod.mk.injEq] at h
                obtain⟨rfl,rfl,_⟩:=h
                cases ks with
                | nil=>exact .inr ⟨_,_,.arr sz xs,rfl,by rw[← Zaw];exact hb,rfl,by rw[ZcK];simp⟩
                | cons a r=>simp[Zwk] at hu
          · cases h
      · cases h
    · cases h
  · simp only[opE] at h
    unfold Zn3 at h
    split at h
    · cases h
    · rename_i ys hy
      cases hz:Znl sz ys 0 with
      | false=>rw[hz] at h;cases h
      | true=>
        rw[hz] at h
        simp only[cond_true] at h
        split at h
        · cases hl:Nat.ble ys.length lim with
          | false=>rw[hl] at h;cases h
          | true=>rw[hl] at h;cases h
        · rename_i b sz' _
          split at h
          · rename_i sz'' xs hb
            cases hc:(Nat.beq sz sz'&&Nat.beq sz sz'') with
            | false=>rw[hc] at h;cases h
            | true=>
              rw[hc] at h
              simp only[cond_true] at h
              cases hl:Nat.ble (xs.length+ys.length) lim with
              | false=>rw[hl] at h;cases h
              | true=>rw[hl] at h;cases h
          · cases h
        · rename_i b sz' o len _
          split at h
          · rename_i sz'' xs hb
            cases hc:(Nat.beq sz sz'&&Nat.beq sz sz''&&Nat.ble (o+len+ys.length) xs.length) with
            | false=>rw[hc] at h;cases h
            | true=>
              rw[hc] at h
              simp only[cond_true,Option.some.injEq,Prod.mk.injEq] at h
              obtain⟨rfl,rfl,_⟩:=h
              simp only[Bool.and_eq_true,Nat.ble_eq] at hc
              obtain⟨⟨c1,c2⟩,c3⟩:=hc
              refine .inr ⟨_,_,.arr sz'' xs,rfl,by rw[← Zaw];exact hb,(Nat.eq_of_beq_eq_true c2).symm,?_⟩
              simp only[List.length_append,List.length_take,List.length_drop]
              omega
          · cases h
        · cases h
theorem Zqv {e:Env}{H:Zs}{o:Op1}{up:List (Nat×Blk)}{nw:List Blk} (h:Zr4 e H o up nw=true):Zr6 o.eff up nw=true∧ZFQ e H up o.op=true:=by
  unfold Zr4 at h
  rwa [Bool.and_eq_true] at h
def ZdY.len (t:ZdY) (j:Nat):Nat:=(t.HH j).length
theorem ZqG {p:Op1}:(ZbD p≤2↔(p.eff=0∨p.eff=1))∧(ZbD p=3↔p.eff=3):=by
  unfold ZbD
  split
  · rename_i h
    rw[h]
    cases Zy1 p.op<;>cases Zyh p.op<;>simp
  · rename_i h;rw[h];simp
  · rename_i h;rw[h];simp
  · rename_i h0 h1 h3
    constructor
    · simp;exact⟨h0,h1⟩
    · simp;exact h3
theorem ZvF {p:Op1} (h:p.eff=1):ZbD p=1:=by unfold ZbD;simp only[h]
theorem ZtQ {p:Op1} (h:ZbD p≤1):(ZbD p=0∧Zy1 p.op=true)∨(ZbD p=1∧Zyh p.op=true∧p.eff≠1)∨(ZbD p=1∧p.eff=1):=by
  rcases(ZqG (p:=p)).1.1 (by omega) with h0 | h0
  · unfold ZbD at h ⊢
    rw[h0] at h ⊢
    cases h1:Zy1 p.op<;>cases h2:Zyh p.op<;>simp_all
  · exact .inr (.inr ⟨ZvF h0,h0⟩)
def ZB0:V→Option Nat
  | .ptr b _=>some b
  | .eptr b _ _ _=>some b
  | _=>none
theorem ZnY {H H':Zs}{n:Nat}{ag:Bool}{x v:V} (h:Ze7 H n ag x=some v) (hs:∀b,ZB0 x=some b→∀blk,H[b]? = some blk→blk ≠ .dead→H'[b]? = some blk):Ze7 H' n ag x=some v:=by
  cases x<;>try exact h
  · rename_i d
    cases d<;>exact h
  · rename_i b o
    unfold Ze7 at h ⊢
    simp only[Zaw] at h ⊢
    cases hb:H[b]? with
    | none=>rw[hb] at h;cases h
    | some blk=>
      rw[hb] at h
      cases blk<;>try (cases h;done)
      rw[hs b rfl _ hb (by simp)];exact h
  · rename_i b sz i k
    unfold Ze7 at h ⊢
    simp only[Zaw] at h ⊢
    cases hb:H[b]? with
    | none=>rw[hb] at h;cases h
    | some blk=>
      rw[hb] at h
      cases blk<;>try (cases h;done)
      rw[hs b rfl _ hb (by simp)];exact h
theorem Zys {H:Zs}{n:Nat}{ag:Bool}{x v:V}{b:Nat} (h:Ze7 H n ag x=some v) (hx:ZB0 x=some b):∃blk,H[b]? = some blk∧blk ≠ .dead:=by
  cases x<;>try (cases hx;done)
  · rename_i b' o
    cases hx
    unfold Ze7 at h
    simp only[Zaw] at h
    cases hb:H[b]? with
    | none=>rw[hb] at h;cases h
    | some blk=>
      rw[hb] at h
      cases blk<;>try (cases h;done)
      exact⟨_,rfl,by simp⟩
  · rename_i b' sz i k
    cases hx
    unfold Ze7 at h
    simp only[Zaw] at h
    cases hb:H[b]? with
    | none=>rw[hb] at h;cases h
    | some blk=>
      rw[hb] at h
      cases blk<;>try (cases h;done)
      exact⟨_,rfl,by simp⟩
theorem Zvr:∀{up:List (Nat×Blk)}{H:Zs}{b:Nat},Zrt up b=false→(Zf5 H up)[b]? = H[b]?
  | [],_,_,_=>rfl
  | (a,blk) :: r,H,b,h=>by
    simp only[Zrt] at h
    cases hb:Nat.beq a b with
    | true=>rw[hb] at h;cases h
    | false=>
      rw[hb] at h
      show(Zf5 (Zhv H a blk) r)[b]? = _
      rw[Zvr (up:=r) h,ZcK,List.getElem?_set_ne (fun e=>by subst e;rw[Nat.beq_refl] at hb;cases hb)]
theorem Zse {e:Env}{up:List (Nat×Blk)}{s:Nat}:∀{l:List Opd},ZqV e up l=true→Zv5 l s=true→∀b,ZB0 (e s)=some b→Zrt up b=false
  | [],_,hs=>by cases hs
  | .c v :: l,h,hs=>by
    simp only[ZqV,Bool.and_eq_true] at h
    exact Zse (l:=l) h.2 hs
  | .t i :: l,h,hs=>by
    simp only[ZqV,Bool.and_eq_true] at h
    simp only[Zv5,Bool.or_eq_true] at hs
    rcases hs with hs | hs
    · obtain rfl:=Nat.eq_of_beq_eq_true hs
      have h1:=h.1
      intro b hb
      change (match e i with
        | .ptr b _=>!(Zrt up b)
        | .eptr b _ _ _=>!(Zrt up b)
        | .d _=>true
        | _=>false)=true at h1
      cases hx:e i<;>rw[hx] at h1 hb<;>simp only[ZB0,Option.some.injEq] at hb<;>first | (subst hb;simpa using h1) | cases hb
    · exact Zse (l:=l) h.2 hs
theorem Zwn {e:Env}{H H':Zs}{s:Nat}:∀{l:List Opd},ZyA e H H' l=true→Zv5 l s=true→∃i,Ze7 H 1 false (e s)=some (.mp i)∧Ze7 H' 1 false (e s)=some (.mp i)
  | [],_,hs=>by cases hs
  | .c v :: l,h,hs=>by
    simp only[ZyA,Bool.and_eq_true] at h
    exact Zwn (l:=l) h.2 hs
  | .t i :: l,h,hs=>by
    simp only[ZyA,Bool.and_eq_true] at h
    simp only[Zv5,Bool.or_eq_true] at hs
    rcases hs with hs | hs
    · obtain rfl:=Nat.eq_of_beq_eq_true hs
      have h1:=h.1
      change (match e i with
        | .ptr b o=>(match Ze7 H 1 false (.ptr b o),Ze7 H' 1 false (.ptr b o) with | some (.mp i),some (.mp j)=>Nat.beq i j | _,_=>false)
        | _=>false)=true at h1
      split at h1
      · rename_i b o hx
        rw[hx]
        split at h1
        · rename_i i1 j1 e1 e2
          rw[e1,e2,Nat.eq_of_beq_eq_true h1]
          exact⟨_,rfl,rfl⟩
        · cases h1
      · cases h1
    · exact Zwn (l:=l) h.2 hs
section
variable {P:Program} {G:Zcu} {N:Nat} {Γ:Ctx} {cf:Zcl} {t:ZdY} {l:List Op1} {e:Env} {H:Zs} {e':Env} {H':Zs} {os:Array Oper} {B:Nat→Nat→Prop} {D:Nat→Bool}
theorem ZdY.OK.len_succ (ht:t.OK Γ cf [] l e H e' H') {j:Nat} (hj:j<l.length):t.len (j+1)=t.len j+(t.NW j).length:=by
  unfold ZdY.len
  rw[ht.h j _ (List.getElem?_eq_getElem hj),List.length_append,ZnE]
theorem ZdY.OK.len_mono (ht:t.OK Γ cf [] l e H e' H') {a:Nat}:∀(b:Nat),a≤b→b≤l.length→t.len a≤t.len b:=by
  intro b
  induction b with
  | zero => intro h _; have : a = 0 := by omega
            subst this;exact Nat.le_refl _
  | succ b ih=>
    intro h hb
    by_cases hab:a=b+1
    · subst hab;exact Nat.le_refl _
    · have h1:=ih (by omega) (by omega)
      have h2:=ht.len_succ (j:=b) (by omega)
      omega
theorem ZdY.OK.whose (ht:t.OK Γ cf [] l e H e' H') {a i:Nat}:∀(b:Nat),a≤b→b≤l.length→t.len a≤i→i<t.len b→∃j,a≤j∧j<b∧t.len j≤i∧i<t.len (j+1):=by
  intro b
  induction b with
  | zero => intro h _ h1 h2; have : a = 0 := by omega
            subst this;omega
  | succ b ih=>
    intro h hb h1 h2
    by_cases hab:a=b+1
    · subst hab;omega
    · by_cases hi:i<t.len b
      · obtain⟨j,g1,g2,g3⟩:=ih (by omega) (by omega) h1 hi
        exact⟨j,g1,by omega,g3⟩
      · exact⟨b,by omega,by omega,by omega,h2⟩
theorem ZdY.OK.one (ht:t.OK Γ cf [] l e H e' H') {i j k:Nat} (hj:j<l.length) (hk:k<l.length) (h1:t.len j≤i∧i<t.len (j+1)) (h2:t.len k≤i∧i<t.len (k+1)):j=k:=by
  rcases Nat.lt_trichotomy j k with h | h | h
  · have:=ht.len_mono (a:=j+1) k (by omega) (by omega);omega
  · exact h
  · have:=ht.len_mono (a:=k+1) j (by omega) (by omega);omega
theorem ZdY.OK.noUp (ht:t.OK Γ cf [] l e H e' H') {j:Nat}{p:Op1} (hp:l[j]? = some p) (hc:ZbD p≤2):t.UP j=[]:=by
  cases hw:t.W j with
  | false=>exact(ht.n j p hp hw).2.1
  | true=>
    have:=(Zqv (ht.y j p hp hw).2).1
    rcases(ZqG (p:=p)).1.1 hc with h | h
    · rw[h] at this;simpa [Zr6] using this
    · rw[h] at this
      simp only[Zr6,Bool.and_eq_true,List.isEmpty_iff] at this
      exact this.1
theorem ZdY.OK.noNew (ht:t.OK Γ cf [] l e H e' H') {j:Nat}{p:Op1} (hp:l[j]? = some p) (hc:ZbD p≤1):t.NW j=[]:=by
  cases hw:t.W j with
  | false=>exact(ht.n j p hp hw).2.2
  | true=>
    rcases ZtQ hc with h | h | h
    · exact Zvj (.inl h.2) (ht.y j p hp hw).1
    · exact Zvj (.inr h.2.1) (ht.y j p hp hw).1
    · have:=(Zqv (ht.y j p hp hw).2).1
      rw[h.2] at this
      simp only[Zr6,Bool.and_eq_true,List.isEmpty_iff] at this
      exact this.2
theorem ZdY.OK.new2 (ht:t.OK Γ cf [] l e H e' H') {i j:Nat}{p:Op1} (hp:l[j]? = some p) (h:t.len j≤i∧i<t.len (j+1)):2≤ZbD p:=by
  have hj:=(List.getElem?_eq_some_iff.1 hp).1
  rcases Nat.lt_or_ge (ZbD p) 2 with h' | h'
  · have:=ht.len_succ hj
    rw[ht.noNew hp (by omega)] at this
    simp at this
    omega
  · exact h'
theorem ZdY.OK.stay1 (ht:t.OK Γ cf [] l e H e' H') {j:Nat}{p:Op1} (hp:l[j]? = some p) (hc:ZbD p≤2):t.HH (j+1)=t.HH j++t.NW j:=by
  rw[ht.h j p hp,ht.noUp hp hc];rfl
theorem ZdY.OK.stay (ht:t.OK Γ cf [] l e H e' H') {a:Nat}:∀(b:Nat),a≤b→b≤l.length→(∀m p,a≤m→m<b→l[m]? = some p→ZbD p≤2)→∀i,i<t.len a→(t.HH b)[i]? = (t.HH a)[i]?:=by
  intro b
  induction b with
  | zero => intro h _ _ i _; have : a = 0 := by omega
            subst this;rfl
  | succ b ih=>
    intro h hb hc i hi
    by_cases hab:a=b+1
    · subst hab;rfl
    · have hp:l[b]? = some (l[b]'(by omega)):=List.getElem?_eq_getElem (by omega)
      have hm:=ht.len_mono (a:=a) b (by omega) (by omega)
      rw[ht.stay1 hp (hc b _ (by omega) (by omega) hp),List.getElem?_append_left (by unfold ZdY.len at *;omega)]
      exact ih (by omega) (by omega) (fun m p h1 h2=>hc m p h1 (by omega)) i hi
theorem ZdY.OK.like1 (ht:t.OK Γ cf [] l e H e' H') (hk:Chk P G N os l B) {j:Nat}{p:Op1} (hp:l[j]? = some p) (hc:ZbD p≤3) {i:Nat} (hi:i<t.len j):∃x y,(t.HH j)[i]? = some x∧(t.HH (j+1))[i]? = some y∧(x=y∨x.like y):=by
  have same:t.UP j=[]→∃x y,(t.HH j)[i]? = some x∧(t.HH (j+1))[i]? = some y∧(x=y∨x.like y):=fun hu=>by
    refine⟨_,_,List.getElem?_eq_getElem hi,?_,.inl rfl⟩
    rw[ht.h j p hp,hu]
    show(t.HH j++t.NW j)[i]? = _
    rw[List.getElem?_append_left hi]
    exact List.getElem?_eq_getElem hi
  rcases Nat.lt_or_ge (ZbD p) 3 with h | h
  · exact same (ht.noUp hp (by omega))
  · have he:=(ZqG (p:=p)).2.1 (by omega)
    cases hw:t.W j with
    | false=>exact same (ht.n j p hp hw).2.1
    | true=>
      obtain⟨y1,y2⟩:=ht.y j p hp hw
      rw[hk.mask j p hp h] at y1
      have y2:=(Zqv y2).1
      rw[he] at y2
      have hs:(∃n x y,p.op = .store n x y∨∃k,p.op = .storek n x y k)∨∃sz x y,p.op = .append sz x y:=by
        have:=hk.eff3 j p hp
        unfold ZwC at this
        rw[he] at this
        cases hop:p.op<;>rw[hop] at this<;>first | (cases this;done) | exact .inl ⟨_,_,_,.inl rfl⟩ | exact .inl ⟨_,_,_,.inr ⟨_,rfl⟩⟩ | exact .inr ⟨_,_,_,rfl⟩
      obtain⟨f1,f2⟩:=ZyZ hs y1 y2
      rcases f2 with f2 | ⟨b,blk,old,f2,f3,f4⟩
      · exact same f2
      · by_cases hbi:b=i
        · subst hbi
          refine⟨old,blk,f3,?_,.inr f4⟩
          rw[ht.h j p hp,f1,f2]
          simp only[Zf5,List.append_nil,ZcK]
          rw[List.getElem?_set,if_pos rfl,if_pos (show b<(t.HH j).length from hi)]
        · refine⟨_,_,List.getElem?_eq_getElem hi,?_,.inl rfl⟩
          rw[ht.h j p hp,f1,f2]
          simp only[Zf5,List.append_nil,ZcK]
          rw[List.getElem?_set,if_neg hbi]
          exact List.getElem?_eq_getElem hi
theorem ZdY.OK.like (ht:t.OK Γ cf [] l e H e' H') (hk:Chk P G N os l B) {a:Nat}:∀(b:Nat),a≤b→b≤l.length→(∀m p,a≤m→m<b→l[m]? = some p→ZbD p≤3)→∀i,i<t.len a→∃x y,(t.HH a)[i]? = some x∧(t.HH b)[i]? = some y∧(x=y∨x.like y):=by
  intro b
  induction b with
  | zero => intro h _ _ i hi; have : a = 0 := by omega
            subst this;exact⟨_,_,List.getElem?_eq_getElem hi,List.getElem?_eq_getElem hi,.inl rfl⟩
  | succ b ih=>
    intro h hb hc i hi
    by_cases hab:a=b+1
    · subst hab;exact⟨_,_,List.getElem?_eq_getElem hi,List.getElem?_eq_getElem hi,.inl rfl⟩
    · have hp:l[b]? = some (l[b]'(by omega)):=List.getElem?_eq_getElem (by omega)
      have hm:=ht.len_mono (a:=a) b (by omega) (by omega)
      obtain⟨x,y,h1,h2,h3⟩:=ih (by omega) (by omega) (fun m p h1 h2=>hc m p h1 (by omega)) i hi
      obtain⟨y',z,g1,g2,g3⟩:=ht.like1 hk hp (hc b _ (by omega) (by omega) hp) (i:=i) (by omega)
      rw[h2] at g1
      cases g1
      refine⟨x,z,h1,g2,?_⟩
      rcases h3 with rfl | h3
      · exact g3
      · rcases g3 with rfl | g3
        · exact .inr h3
        · exact .inr (Blk.like_trans h3 g3)
theorem ZdY.OK.env0 (ht:t.OK Γ cf [] l e H e' H') {x:Nat}:∀(j:Nat),j≤l.length→(∀i p,i<j→l[i]? = some p→p.dst≠some x)→t.E j x=e x:=by
  intro j
  induction j with
  | zero=>intro _ _;rw[ht.e0]
  | succ j ih=>
    intro hj hn
    have hp:l[j]? = some (l[j]'(by omega)):=List.getElem?_eq_getElem (by omega)
    rw[ht.e j _ hp]
    have h1:=hn j _ (by omega) hp
    have h2:=ih (by omega) (fun i p hi=>hn i p (by omega))
    cases hd:(l[j]'(by omega)).dst with
    | none=>exact h2
    | some d=>
      rw[hd] at h1
      show(bif Nat.beq d x then t.VV j else t.E j x)=e x
      have:Nat.beq d x=false:=by
        cases hb:Nat.beq d x with
        | false=>rfl
        | true=>exact absurd (congrArg some (Nat.eq_of_beq_eq_true hb)) h1
      rw[this];exact h2
theorem ZdY.OK.envd (ht:t.OK Γ cf [] l e H e' H') (hk:Chk P G N os l B) {i x:Nat}{p:Op1} (hp:l[i]? = some p) (hd:p.dst=some x):∀(j:Nat),i<j→j≤l.length→t.E j x=t.VV i:=by
  intro j
  induction j with
  | zero=>intro h;omega
  | succ j ih=>
    intro hij hj
    have hq:l[j]? = some (l[j]'(by omega)):=List.getElem?_eq_getElem (by omega)
    rw[ht.e j _ hq]
    by_cases h:i=j
    · subst h
      rw[hp] at hq
      cases hq
      rw[hd]
      show(bif Nat.beq x x then t.VV i else _)=_
      rw[Nat.beq_refl];rfl
    · have h2:=ih (by omega) (by omega)
      cases hd':(l[j]'(by omega)).dst with
      | none=>exact h2
      | some d=>
        show(bif Nat.beq d x then t.VV j else t.E j x)=_
        have:Nat.beq d x=false:=by
          cases hb:Nat.beq d x with
          | false=>rfl
          | true=>
            obtain rfl:=Nat.eq_of_beq_eq_true hb
            exact absurd (hk.dst i j p _ d hp hq hd hd') h
        rw[this];exact h2
theorem ZdY.OK.envs (ht:t.OK Γ cf [] l e H e' H') (hk:Chk P G N os l B) {j x:Nat}{q:Op1} (hq:l[j]? = some q) (he:q.eff=1) (hx:x∈Ze8 q):∀(k:Nat),j≤k→k≤l.length→t.E k x=t.E j x:=by
  intro k
  induction k with
  | zero => intro h _; have : j = 0 := by omega
            subst this;rfl
  | succ k ih=>
    intro hjk hk'
    by_cases h:j=k+1
    · subst h;rfl
    · have hp:l[k]? = some (l[k]'(by omega)):=List.getElem?_eq_getElem (by omega)
      have h2:=ih (by omega) (by omega)
      rw[ht.e k _ hp]
      cases hd:(l[k]'(by omega)).dst with
      | none=>exact h2
      | some d=>
        show(bif Nat.beq d x then t.VV k else t.E k x)=_
        have:Nat.beq d x=false:=by
          cases hb:Nat.beq d x with
          | false=>rfl
          | true=>
            obtain rfl:=Nat.eq_of_beq_eq_true hb
            exact absurd hx (hk.stay k j _ q d hp hq he (by omega) hd)
        rw[this];exact h2
theorem Chk.lt (hk:Chk P G N os l B):∀(j i:Nat),j<l.length→B i j→i<j:=by
  intro j
  induction j using Nat.strongRecOn with
  | ind j ih=>
    intro i hj hb
    obtain⟨k,h1,h2⟩:=hk.bef j _ i (Array.getElem?_eq_getElem (by rw[hk.len];exact hj)) hb
    have h3:=hk.pre j _ (Array.getElem?_eq_getElem (by rw[hk.len];exact hj)) k h1
    rcases h2 with rfl | ⟨h4,h5⟩
    · exact h3
    · have:=ih k h4 i (by omega) h5;omega
def ZrI (os:Array Oper) (D:Nat→Bool):Prop:=∀(j:Nat) o,os[j]? = some o→D j=true→∀i∈ZqC o,D i=true
theorem Chk.down (hk:Chk P G N os l B) (hD:ZrI os D):∀(j i:Nat) o,os[j]? = some o→(∀k∈ZqC o,D k=true)→B i j→D i=true:=by
  intro j
  induction j using Nat.strongRecOn with
  | ind j ih=>
    intro i o ho hp hb
    obtain⟨k,h1,h2⟩:=hk.bef j o i ho hb
    rcases h2 with rfl | ⟨h4,h5⟩
    · exact hp _ h1
    · have hk':k<os.size:=by
        have:=(Array.getElem?_eq_some_iff.1 ho).1;omega
      exact ih k h4 i _ (Array.getElem?_eq_getElem hk') (fun m hm=>hD k _ (Array.getElem?_eq_getElem hk') (hp k h1) m hm) h5
theorem Chk.downD (hk:Chk P G N os l B) (hD:ZrI os D) {i j:Nat} (hj:j<l.length) (h:D j=true) (hb:B i j):D i=true:=
  hk.down hD j i _ (Array.getElem?_eq_getElem (by rw[hk.len];exact hj)) (hD j _ (Array.getElem?_eq_getElem (by rw[hk.len];exact hj)) h) hb
theorem Chk.order (hk:Chk P G N os l B) {i j:Nat}{p q:Op1} (hp:l[i]? = some p) (hq:l[j]? = some q) (hc:3≤ZbD p) (hc2:2≤ZbD q):i=j∨(i<j∧B i j)∨(j<i∧B j i):=by
  have hi:=(List.getElem?_eq_some_iff.1 hp).1
  have hj:=(List.getElem?_eq_some_iff.1 hq).1
  rcases hk.pair i j p q hp hq hc with h | h | h | h | h | h
  · exact .inl h
  · exact .inr (.inl ⟨hk.lt j i hj h,h⟩)
  · exact .inr (.inr ⟨hk.lt i j hi h,h⟩)
  · omega
  · omega
  · have:=ZvF h.1;omega
def hid (t:ZdY) (D:Nat→Bool) (K i:Nat):Bool:=(List.range K).any fun j=>!(D j)&&(decide (t.len j≤i)&&decide (i<t.len (j+1)))
def Zll (t:ZdY) (D:Nat→Bool) (K:Nat):Zs:=(t.HH K).mapIdx fun i b=>bif hid t D K i then .dead else b
theorem Zuy {K i:Nat}:hid t D K i=true↔∃j,j<K∧D j=false∧t.len j≤i∧i<t.len (j+1):=by
  unfold hid
  simp[List.any_eq_true]
theorem Zmq {K i:Nat}:hid t D K i=false↔∀j,j<K→t.len j≤i→i<t.len (j+1)→D j=true:=by
  rw[← Bool.not_eq_true,Zuy]
  constructor
  · intro h j h1 h2 h3
    cases hd:D j with
    | true=>rfl
    | false=>exact absurd ⟨j,h1,hd,h2,h3⟩ h
  · rintro h ⟨j,h1,h2,h3,h4⟩
    rw[h j h1 h3 h4] at h2;cases h2
theorem Zn9 {K i:Nat}:(Zll t D K)[i]? = ((t.HH K)[i]?).map fun b=>bif hid t D K i then .dead else b:=by
  unfold Zll
  rw[List.getElem?_mapIdx]
theorem ZwK {K i:Nat}{blk:Blk} (h:(Zll t D K)[i]? = some blk) (hd:blk ≠ .dead):(t.HH K)[i]? = some blk∧hid t D K i=false:=by
  rw[Zn9] at h
  cases hb:(t.HH K)[i]? with
  | none=>rw[hb] at h;cases h
  | some b=>
    rw[hb] at h
    simp only[Option.map_some,Option.some.injEq] at h
    cases hh:hid t D K i with
    | true=>rw[hh] at h;exact absurd h.symm hd
    | false=>rw[hh] at h;exact⟨by rw[← h];rfl,rfl⟩
theorem Zi9 {K i:Nat} (h:hid t D K i=false):(Zll t D K)[i]? = (t.HH K)[i]?:=by
  rw[Zn9,h]
  cases (t.HH K)[i]?<;>rfl
theorem ZBm (l:List Op1) (a:Nat) (ha:a≤l.length):∃K,a≤K∧K≤l.length∧(∀m p,a≤m→m<K→l[m]? = some p→ZbD p≤2)∧(K<l.length→∃p,l[K]? = some p∧3≤ZbD p):=by
  have key:∀n a,l.length-a=n→a≤l.length→∃K,a≤K∧K≤l.length∧(∀m p,a≤m→m<K→l[m]? = some p→ZbD p≤2)∧(K<l.length→∃p,l[K]? = some p∧3≤ZbD p):=by
    intro n
    induction n with
    | zero=>intro a h1 h2;exact⟨a,Nat.le_refl _,h2,fun m p h3 h4=>by omega,fun h=>by omega⟩
    | succ n ih=>
      intro a h1 h2
      have hp:l[a]? = some (l[a]'(by omega)):=List.getElem?_eq_getElem (by omega)
      rcases Nat.lt_or_ge (ZbD (l[a]'(by omega))) 3 with h | h
      · obtain⟨K,g1,g2,g3,g4⟩:=ih (a+1) (by omega) (by omega)
        refine⟨K,by omega,g2,fun m p h3 h4 h5=>?_,g4⟩
        by_cases hm:m=a
        · subst hm;rw[hp] at h5;cases h5;omega
        · exact g3 m p (by omega) h4 h5
      · exact⟨a,Nat.le_refl _,h2,fun m p h3 h4=>by omega,fun _=>⟨_,hp,h⟩⟩
  exact key _ a rfl ha
end
end Go.Proofs.YtnpidpcmpleiaaaGreatDoorE
namespace Go.Proofs.YtnpidpcmpleiaaaGreatDoorE
open Go
open Go.IntKind (u64 i64 u32 i32 u8)
theorem ZvQ {e e':Env}:∀(g:Option (Nat×Bool)),(∀s b,g=some (s,b)→e s=e' s)→Zh3 e g=Zh3 e' g
 | none,_=>rfl
 | some (s,b),h=>by simp only[Zh3,h s b rfl]
section
variable {P:Program} {G:Zcu} {N:Nat} {Γ:Ctx} {cf:Zcl} {t:ZdY} {l:List Op1} {e:Env} {H:Zs} {e':Env} {H':Zs} {os:Array Oper} {B:Nat→Nat→Prop} {Rf:RP} {wf:World}
structure Zyv (P:Program) (N:Nat) (t:ZdY) (l:List Op1) (os:Array Oper) (e:Env) (H:Zs) (Rf:RP) (wf:World) (D:Nat→Bool) (a:Act) (w:World):Prop where
 closed:ZrI os D
 ex:∃K R env,K≤l.length∧(∀m p,l[m]? = some p→m<K→3≤ZbD p→D m=true)∧(K<l.length→∃p,l[K]? = some p∧3≤ZbD p∧D K=false) ∧
  Ext Rf wf R w∧R.OK w∧R.H=Zll t D K∧(∀i,H.length≤i→(∀j,j<l.length→D j=true→¬(t.len j≤i∧i<t.len (j+1)))→R.M i=none)∧Zj1 R w env a ∧
  (∀j p d,l[j]? = some p→p.dst=some d→D j=true→env d=t.VV j)∧(∀d,(∀j p,l[j]? = some p→p.dst=some d→D j=false)→env d=e d)
 tm:N≤a.tmps.size
 df:a.defers=[]
theorem Zzu (ht:t.OK Γ cf [] l e H e' H') {D:Nat→Bool}{s:Nat}{R:RP}{w:World} (hs:s≤l.length) (ok:R.OK w) (hH:R.H=t.HH s) (hb:∀m p,l[m]? = some p→m<s→2≤ZbD p→D m=true) (ha:∀m p,l[m]? = some p→s≤m→2≤ZbD p→D m=false) :
  ∃K,K≤l.length∧(∀m p,l[m]? = some p→m<K→3≤ZbD p→D m=true)∧(K<l.length→∃p,l[K]? = some p∧3≤ZbD p∧D K=false)∧Ext R w { R with H:=Zll t D K } w∧RP.OK { R with H:=Zll t D K } w:=by
 obtain⟨K,h1,h2,h3,h4⟩:=ZBm l s hs
 have live:∀(i:Nat) blk,(Zll t D K)[i]? = some blk→blk ≠ .dead→R.H[i]? = some blk:=fun i blk h hd=>by
  obtain⟨g1,g2⟩:=ZwK h hd
  rw[Zmq] at g2
  have hiK:i<t.len K:=(List.getElem?_eq_some_iff.1 g1).1
  by_cases hi:i<t.len s
  ·rw[hH,← ht.stay K h1 h2 h3 i hi];exact g1
  ·obtain⟨j,f1,f2,f3,f4⟩:=ht.whose K h1 h2 (by omega) hiK
   have hp:l[j]? = some (l[j]'(by omega)):=List.getElem?_eq_getElem (by omega)
   have d1:=ha j _ hp f1 (ht.new2 hp ⟨f3,f4⟩)
   rw[g2 j f2 f3 f4] at d1;cases d1
 refine⟨K,h2,fun m p hp hm hc=>?_,fun hK=>?_,Ext.kill live,ok.kill live⟩
 ·rcases Nat.lt_or_ge m s with h | h
  ·exact hb m p hp h (by omega)
  ·have:=h3 m p h hm hp;omega
 ·obtain⟨p,f1,f2⟩:=h4 hK
  exact⟨p,f1,f2,ha K p f1 h1 (by omega)⟩
def upd (D:Nat→Bool) (j:Nat):Nat→Bool:=fun i=>if i=j then true else D i
theorem step (c:ZnK P G cf Rf wf) (hlo:Rf.H.length≤H.length) (ht:t.OK Γ cf [] l e H e' H') (hk:Chk P G N os l B) {Q:Exit→Act→World→Prop}{D:Nat→Bool}{a:Act}{w:World} (s:Zyv P N t l os e H Rf wf D a w) {j:Nat}{o:Oper} (ho:os[j]? = some o) (hDj:D j=false) (hpre:∀i∈ZqC o,D i=true) :
  wpOp P os Q j (fun a' w'=>Zyv P N t l os e H Rf wf (upd D j) a' w') a w:=by
 obtain⟨K,R,env,hK,hKd,hKn,x,ok,hH,hM,hE,hV,hO⟩:=s.ex
 have hjl:j<l.length:=by rw[← hk.len];exact(Array.getElem?_eq_some_iff.1 ho).1
 obtain⟨p,hp⟩:∃p,l[j]? = some p:=⟨_,List.getElem?_eq_getElem hjl⟩
 have hoper:=hk.oper j o p ho hp
 simp only[Ztb,Bool.and_eq_true] at hoper
 obtain⟨k1,k2,k3⟩:=hoper
 have down:∀i,B i j→D i=true:=fun i hb=>hk.down s.closed j i o ho hpre hb
 have downD:∀i k,k<l.length→D k=true→B i k→D i=true:=fun i k h1 h2 h3=>hk.downD s.closed h1 h2 h3
 have slot:∀d,d∈Ze8 p→env d=t.E j d:=fun d hd=>by
  by_cases hx:∃(i:Nat) (q:Op1),l[i]? = some q∧q.dst=some d
  ·obtain⟨i,q,hq,hqd⟩:=hx
   have old:j≤i→D i=false→env d=t.E j d:=fun hji hDi=>by
    rw[hO d fun i' q' hq' hqd'=>by rw[hk.dst i' i q' q d hq' hq hqd' hqd];exact hDi,ht.env0 j (by omega) fun i' q' hi' hq' hqd'=>by
     have:=hk.dst i' i q' q d hq' hq hqd' hqd;omega]
   rcases hk.reads i j q p d hq hp hqd hd with hb | hb | hb
   ·rw[hV i q d hq hqd (down i hb),ht.envd hk hq hqd j (hk.lt j i hjl hb) (by omega)]
   ·have hi:=(List.getElem?_eq_some_iff.1 hq).1
    refine old (Nat.le_of_lt (hk.lt i j hi hb)) ?_
    cases hDi:D i with
    | false=>rfl
    | true=>have:=downD j i hi hDi hb;rw[hDj] at this;cases this
   ·subst hb;exact old (Nat.le_refl _) hDj
  ·have hn:∀(i:Nat) (q:Op1),l[i]? = some q→q.dst≠some d:=fun i q hq hqd=>hx ⟨i,q,hq,hqd⟩
   rw[hO d fun i q hq hqd=>absurd hqd (hn i q hq),ht.env0 j (by omega) fun i q _ hq=>hn i q hq]
 have hg:Zh3 env p.guard=some (t.W j):=by
  rw[← ht.w j p hp]
  refine ZvQ _ fun s' b hs=>slot s' ?_
  unfold Ze8
  rw[hs];simp
 have hwant:=Zv8 (a:=a) hE k2 hg
 have hop:∀nid Hm,opE Γ cf env nid Hm p.op=opE Γ cf (t.E j) nid Hm p.op:=fun nid Hm=>by
  refine ZyF _ fun y hy=>?_
  cases y with
  | c v=>rfl
  | t i=>
   refine slot i ?_
   unfold Ze8
   exact List.mem_append_left _ (List.mem_filterMap.2 ⟨.t i,hy,rfl⟩)
 have closed':ZrI os (upd D j):=fun k o' hk' hd i hi=>by
  unfold upd at hd ⊢
  by_cases hik:i=j
  ·rw[if_pos hik]
  ·rw[if_neg hik]
   by_cases hkj:k=j
   ·subst hkj;rw[ho] at hk';cases hk';exact hpre i hi
   ·rw[if_neg hkj] at hd;exact s.closed k o' hk' hd i hi
 have fin:∀(K':Nat) (R':RP) (u:Value) (w':World),K'≤l.length→(∀m p,l[m]? = some p→m<K'→3≤ZbD p→upd D j m=true)→(K'<l.length→∃p,l[K']? = some p∧3≤ZbD p∧upd D j K'=false) →
   Ext R w R' w'→R'.OK w'→R'.H=Zll t (upd D j) K'→(∀i,R.M i=none→¬(t.len j≤i∧i<t.len (j+1))→R'.M i=none)→ZbZ R' w' (t.VV j) u→Zyv P N t l os e H Rf wf (upd D j) (a.put o.dst u) w':=by
  intro K' R' u w' hK' hKd' hKn' x' ok' hH' hM' hv
  refine⟨closed',⟨K',R',ZsO env p.dst (t.VV j),hK',hKd',hKn',x.trans x',ok',hH',fun i hi hni=>?_,Zus (x'.envOK ok.b01 hE) k1 s.tm hv,fun i q d hq hqd hd=>?_,fun d hd=>?_⟩,by rw[Zwm];exact s.tm,by rw[ZwW];exact s.df⟩
  ·refine hM' i (hM i hi fun m hm hd=>hni m hm ?_) (hni j hjl ?_)
   ·unfold upd;split
    ·rfl
    ·exact hd
   ·unfold upd;rw[if_pos rfl]
  ·cases hpd:p.dst with
   | none=>
    show env d=_
    have hij:i≠j:=fun h=>by subst h;rw[hp] at hq;cases hq;rw[hpd] at hqd;cases hqd
    refine hV i q d hq hqd ?_
    unfold upd at hd;rw[if_neg hij] at hd;exact hd
   | some d'=>
    show(bif Nat.beq d' d then t.VV j else env d)=_
    cases hb:Nat.beq d' d with
    | true=>
     obtain rfl:=Nat.eq_of_beq_eq_true hb
     obtain rfl:=hk.dst i j q p d' hq hp hqd hpd
     rfl
    | false=>
     have hij:i≠j:=fun h=>by
      subst h;rw[hp] at hq;cases hq;rw[hpd] at hqd;cases hqd;rw[Nat.beq_refl] at hb;cases hb
     refine hV i q d hq hqd ?_
     unfold upd at hd;rw[if_neg hij] at hd;exact hd
  ·have h0:env d=e d:=hO d fun i q hq hqd=>by
    have:=hd i q hq hqd
    unfold upd at this
    by_cases hij:i=j
    ·rw[if_pos hij] at this;cases this
    ·rw[if_neg hij] at this;exact this
   cases hpd:p.dst with
   | none=>exact h0
   | some d'=>
    show(bif Nat.beq d' d then t.VV j else env d)=_
    cases hb:Nat.beq d' d with
    | false=>exact h0
    | true=>
     obtain rfl:=Nat.eq_of_beq_eq_true hb
     have:=hd j p hp hpd
     unfold upd at this;rw[if_pos rfl] at this;cases this
 have hlen:=ht.len_succ hjl
 have own:∀i m,m<l.length→(t.len m≤i∧i<t.len (m+1))→(t.len j≤i∧i<t.len (j+1))→m=j:=fun i m hm h1 h2=>ht.one hm hjl h1 h2
 have base:H.length≤t.len j:=by
  have:=ht.len_mono (a:=0) j (by omega) (by omega)
  unfold ZdY.len at this ⊢;rw[ht.h0] at this;exact this
 have free:∀i,t.len j≤i→i<t.len j+(t.NW j).length→R.M i=none:=fun i h1 h2=>hM i (by omega) fun m hm hd h=>by
  have:=own i m hm h ⟨h1,by omega⟩
  subst this;rw[hDj] at hd;cases hd
 rcases Nat.lt_or_ge (ZbD p) 3 with hc | hc
 ·
  have hKd':∀m p,l[m]? = some p→m<K→3≤ZbD p→upd D j m=true:=fun m p' h1 h2 h3=>by
   unfold upd;split
   ·rfl
   ·exact hKd m p' h1 h2 h3
  have hKn':K<l.length→∃p,l[K]? = some p∧3≤ZbD p∧upd D j K=false:=fun h=>by
   obtain⟨q,h1,h2,h3⟩:=hKn h
   refine⟨q,h1,h2,?_⟩
   unfold upd;rw[if_neg (fun h=>by subst h;rw[hp] at h1;cases h1;omega)];exact h3
  have two:2≤ZbD p→j<K∧∀m q,j≤m→m<K→l[m]? = some q→ZbD q≤2:=fun h2=>by
   constructor
   ·rcases Nat.lt_or_ge j K with h | h
    ·exact h
    ·obtain⟨q,g1,g2,g3⟩:=hKn (by omega)
     rcases hk.order g1 hp g2 h2 with f | f | f
     ·subst f;rw[hp] at g1;cases g1;omega
     ·rw[down K f.2] at g3;cases g3
     ·omega
   ·intro m q h3 h4 hq
    rcases Nat.lt_or_ge (ZbD q) 3 with h | h
    ·omega
    ·rcases hk.order hq hp h h2 with f | f | f
     ·subst f;rw[hp] at hq;cases hq;omega
     ·omega
     ·have:=downD j m (by omega) (hKd m q hq h4 h) f.2
      rw[hDj] at this;cases this
  have stg:∀i,(Zll t (upd D j) K)[i]? = if t.len j≤i∧i<t.len j+(t.NW j).length then (t.NW j)[i-t.len j]? else (Zll t D K)[i]?:=fun i=>by
   by_cases hi:t.len j≤i∧i<t.len j+(t.NW j).length
   ·rw[if_pos hi]
    have h2:=ht.new2 hp (i:=i) ⟨hi.1,by omega⟩
    obtain⟨t1,t2⟩:=two h2
    rw[Zi9]
    ·rw[ht.stay (a:=j+1) K (by omega) hK (fun m q h3 h4 hq=>t2 m q (by omega) h4 hq) i (by omega),ht.stay1 hp (by omega),List.getElem?_append_right hi.1]
     rfl
    ·rw[Zmq]
     intro m hm h3 h4
     have:=own i m (by omega) ⟨h3,h4⟩ ⟨hi.1,by omega⟩
     unfold upd;rw[if_pos this]
   ·rw[if_neg hi,Zn9,Zn9]
    have:hid t (upd D j) K i=hid t D K i:=by
     rw[Bool.eq_iff_iff,Zuy,Zuy]
     constructor
     ·rintro ⟨m,h1,h2,h3⟩
      unfold upd at h2
      by_cases hm:m=j
      ·rw[if_pos hm] at h2;cases h2
      ·rw[if_neg hm] at h2;exact⟨m,h1,h2,h3⟩
     ·rintro ⟨m,h1,h2,h3,h4⟩
      have hm:m≠j:=fun h=>by subst h;omega
      exact⟨m,h1,by unfold upd;rw[if_neg hm];exact h2,h3,h4⟩
    rw[this]
  have hpl:t.UP j=[]:=ht.noUp hp (by omega)
  unfold wpOp
  simp only[ho]
  cases hw:t.W j with
  | false=>
   rw[hw] at hwant
   rw[hwant]
   simp only[Bool.false_eq_true,if_false]
   obtain⟨n1,n2,n3⟩:=ht.n j p hp hw
   refine fin K R undef w hK hKd' hKn' (Ext.refl R w) ok ?_ (fun i h _=>h) (by rw[n1];exact Zsn)
   rw[hH]
   apply List.ext_getElem?
   intro i
   rw[stg i,n3,if_neg (by rintro ⟨h1,h2⟩;simp at h2;omega)]
  | true=>
   rw[hw] at hwant
   rw[hwant]
   simp only[if_true]
   obtain⟨y1,y2⟩:=ht.y j p hp hw
   rw[hpl] at y1
   have see:ZbD p≤2→∀i blk,(ZiV (t.HH j) ([]++t.pos j) p.mask)[i]? = some blk→blk ≠ .dead→(t.HH j)[i]? = some blk∧∀m,m<j→t.len m≤i→i<t.len (m+1)→D m=true:=fun _ i blk h hd=>by
    obtain⟨h1,h2⟩:=Zq7 _ _ _ i blk h hd
    refine⟨h1,fun m hm h3 h4=>?_⟩
    have hq:l[m]? = some (l[m]'(by omega)):=List.getElem?_eq_getElem (by omega)
    rcases hk.early m j _ p hq hp hm with f | f | f
    ·omega
    ·exact down m f
    ·have h5:=h2 m f (t.len m) (t.NW m).length (by simp[ZdY.pos,hm,ZdY.len])
     have:=ht.len_succ (j:=m) (by omega)
     omega
   have hHm:∃Hm,(∀b blk,nth Hm b=some blk→blk ≠ .dead→nth R.H b=some blk)∧opE Γ cf env (t.len j) Hm p.op=some (t.VV j,[],t.NW j):=by
    rcases Nat.lt_or_ge (ZbD p) 2 with h2 | h2
    ·rcases ZtQ (p:=p) (by omega) with⟨_,h0⟩ | ⟨h01,h1,hne⟩ | ⟨h01,he1⟩
     ·refine⟨[],fun b blk hb=>by simp[nth] at hb,?_⟩
      rw[hop,ZCU (nid':=(t.HH j).length) (H':=ZiV (t.HH j) ([]++t.pos j) p.mask) h0];exact y1
     ·refine⟨R.H,fun b blk hb _=>hb,?_⟩
      rw[hop]
      refine ZCR (H:=ZiV (t.HH j) ([]++t.pos j) p.mask) (fun b blk hb hd=>?_) h1 y1
      rw[Zaw] at hb
      obtain⟨g1,g2⟩:=see (by omega) b blk hb hd
      have hbj:b<t.len j:=(List.getElem?_eq_some_iff.1 g1).1
      have hbK:b<t.len K:=by
       rcases Nat.lt_or_ge j K with h | h
       ·have:=ht.len_mono (a:=j) K (by omega) hK;omega
       ·by_cases hb0:b<t.len 0
        ·have:=ht.len_mono (a:=0) K (by omega) hK;omega
        ·obtain⟨m,_,f2,f3,f4⟩:=ht.whose (a:=0) j (by omega) (by omega) (by omega) hbj
         have hdm:=g2 m f2 f3 f4
         have hq:l[m]? = some (l[m]'(by omega)):=List.getElem?_eq_getElem (by omega)
         have hmK:m<K:=by
          rcases Nat.lt_or_ge m K with h' | h'
          ·exact h'
          ·obtain⟨q,q1,q2,q3⟩:=hKn (by omega)
           rcases hk.order q1 hq q2 (ht.new2 hq ⟨f3,f4⟩) with f | f | f
           ·subst f;rw[hdm] at q3;cases q3
           ·rw[downD K m (by omega) hdm f.2] at q3;cases q3
           ·omega
         have:=ht.len_mono (a:=m+1) K (by omega) hK;omega
      have hhid:hid t D K b=false:=by
       rw[Zmq]
       intro m hm h3 h4
       rcases Nat.lt_or_ge m j with h | h
       ·exact g2 m h h3 h4
       ·have:=ht.len_mono (a:=j) m h (by omega);omega
      rw[Zaw,hH,Zi9 hhid]
      have three:∀m q,l[m]? = some q→(j≤m∧m<K∨K≤m∧m<j)→ZbD q≤3:=fun m q hq hm=>by
       rcases Nat.lt_or_ge (ZbD q) 3 with h | h
       ·omega
       ·rcases hk.pair m j q p hq hp h with f | f | f | f | f | f
        ·subst f;rw[hp] at hq;cases hq;omega
        ·rcases hm with hm | hm
         ·have:=hk.lt j m hjl f;omega
         ·have hdm:=down m f
          obtain⟨q',q1,q2,q3⟩:=hKn (by omega)
          rcases hk.order q1 hq q2 (by omega) with g | g | g
          ·subst g;rw[hdm] at q3;cases q3
          ·rw[downD K m (by omega) hdm g.2] at q3;cases q3
          ·omega
        ·rcases hm with hm | hm
         ·have:=downD j m (by omega) (hKd m q hq hm.2 h) f
          rw[hDj] at this;cases this
         ·have:=hk.lt m j (by omega) f;omega
        ·omega
        ·omega
        ·exact absurd f.1 hne
      rcases Nat.le_total j K with h | h
      ·obtain⟨x1,y1',z1,z2,z3⟩:=ht.like hk (a:=j) K h hK (fun m q h3 h4 hq=>three m q hq (.inl ⟨h3,h4⟩)) b hbj
       rw[g1] at z1;cases z1
       exact⟨y1',z2,z3.elim (fun h=>h ▸ Blk.like_refl hd) id⟩
      ·obtain⟨x1,y1',z1,z2,z3⟩:=ht.like hk (a:=K) j h (by omega) (fun m q h3 h4 hq=>three m q hq (.inr ⟨h3,h4⟩)) b hbK
       rw[g1] at z2;cases z2
       exact⟨x1,z1,z3.elim (fun h=>by subst h;exact Blk.like_refl hd) Blk.like_symm⟩
     ·
      obtain⟨n0,ag0,s',hops,hgd⟩:∃n0 ag0 s',p.op = .load n0 ag0 (.t s')∧p.guard=none:=by
       have:=hk.eff1 j p hp
       unfold Zwo at this
       rw[he1] at this
       change (match p.op,p.guard with | .load _ _ (.t _),none=>true | _,_=>false)=true at this
       split at this
       ·exact⟨_,_,_,by assumption,by assumption⟩
       ·cases this
      have hsl:s'∈Ze8 p:=by unfold Ze8;rw[hops];simp[ZxA,ZBA]
      have hjK:j<K:=by
       rcases Nat.lt_or_ge j K with h | h
       ·exact h
       ·obtain⟨q,g1,g2,g3⟩:=hKn (by omega)
        rcases hk.pair K j q p g1 hp g2 with f | f | f | f | f | f
        ·subst f;rw[hp] at g1;cases g1;omega
        ·rw[down K f] at g3;cases g3
        ·have:=hk.lt K j (by omega) f;omega
        ·omega
        ·exact absurd he1 f.2.2
        ·omega
      have ldE:∀(Hx:Zs) (k:Nat),opE Γ cf (t.E j) k Hx p.op=(match Ze7 Hx n0 ag0 (t.E j s') with | some v=>ZeH v | none=>none):=fun Hx k=>by rw[hops];rfl
      rw[ldE] at y1
      have hyl:Ze7 (ZiV (t.HH j) ([]++t.pos j) p.mask) n0 ag0 (t.E j s')=some (t.VV j)∧t.NW j=[]:=by
       cases hl:Ze7 (ZiV (t.HH j) ([]++t.pos j) p.mask) n0 ag0 (t.E j s') with
       | none=>rw[hl] at y1;cases y1
       | some v=>
        rw[hl] at y1
        obtain⟨rfl,_,h3⟩:=Zba y1
        exact⟨rfl,h3⟩
      obtain⟨hyl,hnw⟩:=hyl
      have key:∀k,j≤k→k≤K→Ze7 (t.HH k) n0 ag0 (t.E j s')=some (t.VV j):=by
       intro k
       induction k with
       | zero=>
        intro h _
        have:j=0:=by omega
        subst this
        exact ZnY hyl fun b _ blk hb hd=>(see (by omega) b blk hb hd).1
       | succ k ih=>
        intro hjk hkK
        by_cases hjk':j=k+1
        ·subst hjk'
         exact ZnY hyl fun b _ blk hb hd=>(see (by omega) b blk hb hd).1
        ·have ih':=ih (by omega) (by omega)
         have hq:l[k]? = some (l[k]'(by omega)):=List.getElem?_eq_getElem (by omega)
         have app:∀(Ha Hb:Zs),Ze7 Ha n0 ag0 (t.E j s')=some (t.VV j)→Ze7 (Ha++Hb) n0 ag0 (t.E j s')=some (t.VV j):=fun Ha Hb hl=>
          ZnY hl fun b _ blk hb _=>by rw[List.getElem?_append_left (List.getElem?_eq_some_iff.1 hb).1];exact hb
         rcases Nat.lt_or_ge (ZbD (l[k]'(by omega))) 3 with h | h
         ·rw[ht.stay1 hq (by omega)]
          exact app _ _ ih'
         ·rcases hk.pair k j _ p hq hp h with f | f | f | f | f | f
          ·subst f
           rw[hp] at hq
           have hq':=Option.some.inj hq
           rw[← hq'] at h
           omega
          ·have:=hk.lt j k hjl f;omega
          ·have:=downD j k (by omega) (hKd k _ hq (by omega) h) f
           rw[hDj] at this;cases this
          ·omega
          ·exact absurd he1 f.2.2
          ·cases hwk:t.W k with
           | false=>
            obtain⟨_,n2,n3⟩:=ht.n k _ hq hwk
            rw[ht.h k _ hq,n2,n3]
            exact app _ _ ih'
           | true=>
            have zc:=(Zqv (ht.y k _ hq hwk).2).2
            have hkp:=f.2.2
            unfold ZAv at hkp
            rw[hops] at hkp
            split at hkp
            ·rename_i f' args chk s'' hopk hsx
             cases hsx
             rw[hopk] at zc
             obtain⟨i0,q1,q2⟩:=Zwn (show ZyA (t.E k) (t.HH k) (Zf5 (t.HH k) (t.UP k)) chk=true from zc) hkp
             rw[ht.envs hk hp he1 hsl k (by omega) (by omega)] at q1 q2
             rw[q1] at ih'
             rw[ht.h k _ hq]
             exact app _ _ (q2.trans ih')
            ·rename_i m' x' y' chk n' a' s'' hopk hsx
             cases hsx
             rw[hopk] at zc
             have ap:=Zse (show ZqV (t.E k) (t.UP k) chk=true from zc) hkp
             rw[ht.envs hk hp he1 hsl k (by omega) (by omega)] at ap
             rw[ht.h k _ hq]
             refine app _ _ (ZnY ih' fun b hb blk hbk _=>?_)
             rw[Zvr (ap b hb)]
             exact hbk
            ·cases hkp
      refine⟨R.H,fun b blk hb _=>hb,?_⟩
      rw[hop,ldE]
      have:Ze7 R.H n0 ag0 (t.E j s')=some (t.VV j):=by
       refine ZnY (key K (by omega) (Nat.le_refl _)) fun b hb blk hbk hd=>?_
       obtain⟨blk0,h5,h6⟩:=Zys hyl hb
       obtain⟨g1,g2⟩:=see (by omega) b blk0 h5 h6
       have hbj:b<t.len j:=(List.getElem?_eq_some_iff.1 g1).1
       rw[hH,Zi9]
       ·exact hbk
       ·rw[Zmq]
        intro m hm h3 h4
        rcases Nat.lt_or_ge m j with h | h
        ·exact g2 m h h3 h4
        ·have:=ht.len_mono (a:=j) m h (by omega);omega
      rw[this,hnw];rfl
    ·obtain⟨t1,t2⟩:=two h2
     refine⟨_,fun b blk hb hd=>?_,by rw[hop];exact y1⟩
     rw[Zaw] at hb
     obtain⟨g1,g2⟩:=see (by omega) b blk hb hd
     have hbj:b<t.len j:=(List.getElem?_eq_some_iff.1 g1).1
     rw[Zaw,hH,Zi9,ht.stay K (by omega) hK t2 b hbj]
     ·exact g1
     ·rw[Zmq]
      intro m hm h3 h4
      rcases Nat.lt_or_ge m j with h | h
      ·exact g2 m h h3 h4
      ·have:=ht.len_mono (a:=j) m h (by omega);omega
   obtain⟨Hm,hle,hop'⟩:=hHm
   have pre:Pre G R w env a Hm:=⟨ok,x.gok c.ok.b01 c.g,hE,hle⟩
   have hplaced:Za4 R.H [] (t.len j) (t.NW j) (Zll t (upd D j) K):=fun i=>by rw[stg i,hH];rfl
   refine .inl ((ZBu pre c.cf k3 hop' free hplaced).wp fun u w' hpost=>?_)
   obtain⟨R',x',ok',hH',hv,hM'⟩:=hpost
   exact fin K R' u w' hK hKd' hKn' x' ok' hH' (fun i h1 h2=>hM' i h1 (by omega)) hv
 ·
  have hjK:j=K:=by
   rcases Nat.lt_trichotomy j K with h | h | h
   ·rw[hKd j p hp h hc] at hDj;cases hDj
   ·exact h
   ·obtain⟨q,g1,g2,g3⟩:=hKn (by omega)
    rcases hk.order g1 hp g2 (by omega) with f | f | f
    ·omega
    ·rw[down K f.2] at g3;cases g3
    ·omega
  subst hjK
  have below:∀m q,l[m]? = some q→m<j→2≤ZbD q→D m=true:=fun m q hq hm h2=>by
   rcases hk.order hp hq hc h2 with f | f | f
   ·omega
   ·omega
   ·exact down m f.2
  have above:∀m q,l[m]? = some q→j<m→2≤ZbD q→D m=false:=fun m q hq hm h2=>by
   cases hd:D m with
   | false=>rfl
   | true=>
    rcases hk.order hp hq hc h2 with f | f | f
    ·omega
    ·have:=downD j m (List.getElem?_eq_some_iff.1 hq).1 hd f.2
     rw[hDj] at this;cases this
    ·omega
  have full:Zll t D j=t.HH j:=by
   apply List.ext_getElem?
   intro i
   refine Zi9 (Zmq.2 fun m hm h3 h4=>?_)
   have hq:l[m]? = some (l[m]'(by omega)):=List.getElem?_eq_getElem (by omega)
   exact below m _ hq hm (ht.new2 hq ⟨h3,h4⟩)
  rw[full] at hH
  have go:∀(R':RP) (u:Value) (w':World),Ext R w R' w'→R'.OK w'→R'.H=t.HH (j+1)→(∀i,R.M i=none→¬(t.len j≤i∧i<t.len (j+1))→R'.M i=none)→ZbZ R' w' (t.VV j) u→Zyv P N t l os e H Rf wf (upd D j) (a.put o.dst u) w':=by
   intro R' u w' x' ok' hH' hM' hv
   obtain⟨K',g1,g2,g3,g4,g5⟩:=Zzu ht (D:=upd D j) (s:=j+1) (by omega) ok' hH' (fun m q hq hm h2=>by
    unfold upd
    by_cases hmj:m=j
    ·rw[if_pos hmj]
    ·rw[if_neg hmj];exact below m q hq (by omega) h2) (fun m q hq hm h2=>by
    unfold upd;rw[if_neg (by omega)];exact above m q hq (by omega) h2)
   exact fin K' _ u w' g1 g2 g3 (x'.trans g4) g5 rfl hM' (g4.denV ok'.b01 _ _ hv)
  unfold wpOp
  simp only[ho]
  cases hw:t.W j with
  | false=>
   rw[hw] at hwant
   rw[hwant]
   simp only[Bool.false_eq_true,if_false]
   obtain⟨n1,n2,n3⟩:=ht.n j p hp hw
   refine go R undef w (Ext.refl R w) ok ?_ (fun i h _=>h) (by rw[n1];exact Zsn)
   rw[hH,ht.h j p hp,n2,n3];simp[Zf5]
  | true=>
   rw[hw] at hwant
   rw[hwant]
   simp only[if_true]
   obtain⟨y1,y2⟩:=ht.y j p hp hw
   rw[hk.mask j p hp hc] at y1
   have pre:Pre G R w env a (t.HH j):=⟨ok,x.gok c.ok.b01 c.g,hE,fun b blk hb _=>by rw[hH];exact hb⟩
   have hplaced:Za4 R.H (t.UP j) (t.len j) (t.NW j) (t.HH (j+1)):=by
    rw[hH,ht.h j p hp];exact Ztj _ _ _
   refine .inl ((ZBu pre c.cf k3 (by rw[hop];exact y1) free hplaced).wp fun u w' hpost=>?_)
   obtain⟨R',x',ok',hH',hv,hM'⟩:=hpost
   exact go R' u w' x' ok' hH' (fun i h1 h2=>hM' i h1 (by omega)) hv
theorem Zt9 {p q:Nat→Bool}:∀(l:List Nat) (j:Nat),(∀x,q x=true→p x=true)→j∈l→p j=true→q j=false→l.countP q<l.countP p
 | [],j,_,h,_,_=>by cases h
 | x :: l,j,hq,h,h1,h2=>by
  have mono:∀l:List Nat,l.countP q≤l.countP p:=fun l=>List.countP_mono_left fun x _ h=>hq x h
  rw[List.countP_cons,List.countP_cons]
  by_cases hx:x=j
  ·subst hx
   have:=mono l
   rw[h1,h2];simp;omega
  ·have:=Zt9 l j hq ((List.mem_cons.1 h).resolve_left (fun h=>hx h.symm)) h1 h2
   cases hqx:q x with
   | true=>rw[hq x hqx];simp;omega
   | false=>cases hpx:p x<;>simp<;>omega
theorem Zzw (c:ZnK P G cf Rf wf) (hlo:Rf.H.length≤H.length) (ht:t.OK Γ cf [] l e H e' H') (hk:Chk P G N os l B) {Q:Exit→Act→World→Prop} (hQ:∀D a w,(∀j,j<l.length→D j=true)→Zyv P N t l os e H Rf wf D a w→Q .normal a w) :
  ∀(fuel:Nat) (listed:Array Bool) (a:Act) (w:World),listed.size=os.size→Zyv P N t l os e H Rf wf (fun j=>listed.getD j false) a w→(List.range os.size).countP (fun j=>!listed.getD j false)≤fuel→wpAny P .any os Q fuel listed a w:=by
 have full:∀(listed:Array Bool),listed.size=os.size→(Region.ready .any os listed=[])→∀j,j<l.length→listed.getD j false=true:=by
  intro listed hsz hr j
  induction j using Nat.strongRecOn with
  | ind j ih=>
   intro hj
   have hjs:j<os.size:=by rw[hk.len];exact hj
   cases hd:listed.getD j false with
   | true=>rfl
   | false=>
    have:j∈Region.ready .any os listed:=by
     rw[mem_ready]
     refine⟨?_,os[j],Array.getElem?_eq_getElem hjs,fun ed he hb=>?_⟩
     ·simp only[Array.getD_eq_getD_getElem?] at hd ⊢
      rw[Array.getElem?_eq_getElem (by omega)] at hd ⊢;exact hd
     ·have hlt:=hk.pre j _ (Array.getElem?_eq_getElem hjs) ed.on (by
       unfold ZqC
       exact List.mem_map.2 ⟨ed,List.mem_filter.2 ⟨by simpa using he,hb⟩,rfl⟩)
      exact ih ed.on hlt (by omega)
    rw[hr] at this;cases this
 intro fuel
 induction fuel with
 | zero=>
  intro listed a w hsz s hc
  have hall:∀j,j<l.length→listed.getD j false=true:=fun j hj=>by
   cases hd:listed.getD j false with
   | true=>rfl
   | false=>
    have h1:0<(List.range os.size).countP (fun j=>!listed.getD j false):=List.countP_pos_iff.2 ⟨j,by simp[hk.len,hj],by simp only[hd];rfl⟩
    omega
  refine⟨?_,hQ _ a w hall s⟩
  apply List.eq_nil_iff_forall_not_mem.2
  intro j hj
  obtain⟨h1,o,h2,_⟩:=mem_ready.1 hj
  have hjs:=(Array.getElem?_eq_some_iff.1 h2).1
  have:=hall j (by rw[← hk.len];exact hjs)
  simp only[Array.getD_eq_getD_getElem?] at h1 this
  rw[Array.getElem?_eq_getElem (by omega)] at h1 this
  simp at h1 this;rw[h1] at this;cases this
 | succ fuel ih=>
  intro listed a w hsz s hc
  refine⟨fun hr=>hQ _ a w (full listed hsz hr) s,fun j hj=>?_⟩
  obtain⟨h1,o,h2,h3⟩:=mem_ready.1 hj
  have hjs:=(Array.getElem?_eq_some_iff.1 h2).1
  have hd:listed.getD j false=false:=by
   simp only[Array.getD_eq_getD_getElem?] at h1 ⊢
   rw[Array.getElem?_eq_getElem (by omega)] at h1 ⊢;exact h1
  have hup:upd (fun j=>listed.getD j false) j=fun k=>(listed.setIfInBounds j true).getD k false:=by
   funext k
   unfold upd
   by_cases hkj:k=j
   ·subst hkj
    rw[if_pos rfl]
    simp[Array.getD_eq_getD_getElem?,hsz,hjs]
   ·rw[if_neg hkj,getD_set_ne false (fun h=>hkj h.symm)]
  refine wpOp_mono (fun a' w' s'=>ih _ a' w' (by simp[hsz]) s' ?_) (hup ▸ step c hlo ht hk s h2 hd fun i hi=>?_)
  ·have:=Zt9 (p:=fun j=>!listed.getD j false) (q:=fun k=>!(listed.setIfInBounds j true).getD k false) (List.range os.size) j (fun k hk'=>by
    by_cases hkj:j=k
    ·subst hkj;simp only[hd];rfl
    ·rw[getD_set_ne false hkj] at hk';exact hk') (by simp[hjs]) (by simp only[hd];rfl) (by simp[Array.getD_eq_getD_getElem?,hsz,hjs])
   omega
  ·unfold ZqC at hi
   obtain⟨ed,f1,rfl⟩:=List.mem_map.1 hi
   obtain⟨f2,f3⟩:=List.mem_filter.1 f1
   exact h3 ed (by simpa using f2) f3
end
theorem ZCE {P:Program}{G:Zcu}{N:Nat}{Γ:Ctx}{cf:Zcl}:Zpu P G N Γ cf (ZI P G N):=by
 intro id os l Rf wf e H e' H' a w hok hd c s
 obtain⟨B,hk⟩:=Zw2 hok
 obtain⟨t,ht⟩:=Zsj l [] e H e' H' hd
 obtain⟨R,x,ok,hH,hM,hE⟩:=s.ex
 refine wp_region_any hk.mixed ?_
 have xd:Ext R w R { w with drawn:=w.drawn+1 }:=Ext.draw rfl rfl rfl rfl
 have okd:R.OK { w with drawn:=w.drawn+1 }:=ok.draw rfl rfl rfl rfl
 refine Zzw c s.hl ht hk (fun D a' w' hall s'=>?_) os.size _ a _ (by simp) ?_ ?_
 ·obtain⟨K,R',env,h1,h2,h3,x',ok',hH',hM',hE',hV,hO⟩:=s'.ex
  have hKl:K=l.length:=by
   rcases Nat.lt_or_ge K l.length with h | h
   ·obtain⟨_,_,_,h4⟩:=h3 h
    rw[hall K h] at h4;cases h4
   ·omega
  subst hKl
  have hHe:Zll t D l.length=H':=by
   rw[← ht.h1]
   apply List.ext_getElem?
   intro i
   exact Zi9 (Zmq.2 fun m hm _ _=>hall m hm)
  have hle:H.length≤H'.length:=by
   have:=ht.len_mono (a:=0) l.length (by omega) (Nat.le_refl _)
   unfold ZdY.len at this;rw[ht.h0,ht.h1] at this;exact this
  have henv:∀d,env d=e' d:=fun d=>by
   rw[← ht.e1]
   by_cases hx:∃(i:Nat) (q:Op1),l[i]? = some q∧q.dst=some d
   ·obtain⟨i,q,hq,hqd⟩:=hx
    have hi:=(List.getElem?_eq_some_iff.1 hq).1
    rw[hV i q d hq hqd (hall i hi),ht.envd hk hq hqd l.length hi (Nat.le_refl _)]
   ·have hn:∀(i:Nat) (q:Op1),l[i]? = some q→q.dst≠some d:=fun i q hq hqd=>hx ⟨i,q,hq,hqd⟩
    rw[hO d fun i q hq hqd=>absurd hqd (hn i q hq),ht.env0 l.length (Nat.le_refl _) fun i q _ hq=>hn i q hq]
  refine⟨rfl,⟨⟨R',x',ok',by rw[hH',hHe],fun i hi=>hM' i (by omega) fun j hj _ hb=>?_,fun d=>by rw[← henv d];exact hE' d⟩,s'.tm,s'.df,by have:=s.hl;omega⟩⟩
  have:=ht.len_mono (a:=j+1) l.length (by omega) (Nat.le_refl _)
  have h2:t.len l.length=H'.length:=by unfold ZdY.len;rw[ht.h1]
  omega
 ·have hf:∀j,(Array.replicate os.size false).getD j false=false:=fun j=>by
   by_cases hj:j<os.size<;>simp[Array.getD_eq_getD_getElem?,hj]
  obtain⟨K,g1,g2,g3,g4,g5⟩:=Zzu ht (D:=fun j=>(Array.replicate os.size false).getD j false) (s:=0) (Nat.zero_le _) okd (by rw[ht.h0];exact hH) (fun m p _ hm=>by omega) (fun m p _ _ _=>hf m)
  refine⟨fun j o _ hd=>(by rw[hf j] at hd;cases hd),⟨K,_,e,g1,g2,g3,(x.trans xd).trans g4,g5,rfl,fun i hi _=>hM i hi,g4.envOK okd.b01 (xd.envOK ok.b01 hE),fun j p d _ _ hd=>(by rw[hf j] at hd;cases hd),fun d _=>rfl⟩,s.tm,s.df⟩
 ·exact Nat.le_trans List.countP_le_length (by simp)
theorem Zzn {P:Program}{G:Zcu}{Γ:Ctx} (hall:∀f fn,Γ.code f=some fn→ZaV P G (fun N=>ZI P G N) f fn=true∨Zsq P f fn):Ziv P G (evW Γ):=
 ZDP (fun _ _ _=>ZCE) hall
end Go.Proofs.YtnpidpcmpleiaaaGreatDoorE
namespace Go.Proofs.YtnpidpcmpleiaaaGreatDoor
open Go Go.Proofs.YtnpidpcmpleiaaaGreatDoorE
open Go.IntKind (u64 i64 u32 i32 u8)
def ZDf:List (IntKind×Int):=[(.u8,0),(.u8,1),(.u8,28),(.u8,2),(.u8,29),(.u8,14),(.u8,24),(.u8,3),(.u8,30),(.u8,22),(.u8,20),(.u8,15),(.u8,25),(.u8,17),(.u8,4),(.u8,8),(.u8,31),(.u8,27),(.u8,13),(.u8,23),(.u8,21),(.u8,19),(.u8,16),(.u8,7),(.u8,26),(.u8,12),(.u8,18),(.u8,6),(.u8,11),(.u8,5),(.u8,10),(.u8,9)]
def ZC4:List (IntKind×Int):=[(.u8,0),(.u8,1),(.u8,56),(.u8,2),(.u8,57),(.u8,49),(.u8,28),(.u8,3),(.u8,61),(.u8,58),(.u8,42),(.u8,50),(.u8,38),(.u8,29),(.u8,17),(.u8,4),(.u8,62),(.u8,47),(.u8,59),(.u8,36),(.u8,45),(.u8,43),(.u8,51),(.u8,22),(.u8,53),(.u8,39),(.u8,33),(.u8,30),(.u8,24),(.u8,18),(.u8,12),(.u8,5),(.u8,63),(.u8,55),(.u8,48),(.u8,27),(.u8,60),(.u8,41),(.u8,37),(.u8,16),(.u8,46),(.u8,35),(.u8,44),(.u8,21),(.u8,52),(.u8,32),(.u8,23),(.u8,11),(.u8,54),(.u8,26),(.u8,40),(.u8,15),(.u8,34),(.u8,20),(.u8,31),(.u8,10),(.u8,25),(.u8,14),(.u8,19),(.u8,9),(.u8,13),(.u8,8),(.u8,7),(.u8,6)]
def Zt:Zcu
 | 0=>some ZDf
 | 1=>some ZC4
 | _=>none
theorem ok3:ZaV Tryz.prog Zt (fun N=>ZI Tryz.prog Zt N) 3 fn3=true:=by kernel_rfl
theorem ok4:ZaV Tryz.prog Zt (fun N=>ZI Tryz.prog Zt N) 4 fn4=true:=by kernel_rfl
theorem ok5:ZaV Tryz.prog Zt (fun N=>ZI Tryz.prog Zt N) 5 fn5=true:=by kernel_rfl
theorem ok6:ZaV Tryz.prog Zt (fun N=>ZI Tryz.prog Zt N) 6 fn6=true:=by kernel_rfl
theorem ok7:ZaV Tryz.prog Zt (fun N=>ZI Tryz.prog Zt N) 7 fn7=true:=by kernel_rfl
theorem ok8:ZaV Tryz.prog Zt (fun N=>ZI Tryz.prog Zt N) 8 fn8=true:=by kernel_rfl
theorem ok9:ZaV Tryz.prog Zt (fun N=>ZI Tryz.prog Zt N) 9 fn9=true:=by kernel_rfl
theorem ZGL:ZaV Tryz.prog Zt (fun N=>ZI Tryz.prog Zt N) 10 ZFk=true:=by kernel_rfl
theorem ZIV:ZaV Tryz.prog Zt (fun N=>ZI Tryz.prog Zt N) 11 ZGm=true:=by kernel_rfl
theorem ZI9:ZaV Tryz.prog Zt (fun N=>ZI Tryz.prog Zt N) 12 ZFM=true:=by kernel_rfl
theorem ZHO:ZaV Tryz.prog Zt (fun N=>ZI Tryz.prog Zt N) 13 ZEI=true:=by kernel_rfl
theorem ZIj:ZaV Tryz.prog Zt (fun N=>ZI Tryz.prog Zt N) 14 ZE7=true:=by kernel_rfl
theorem ZHV:ZaV Tryz.prog Zt (fun N=>ZI Tryz.prog Zt N) 15 ZEO=true:=by kernel_rfl
theorem ZJm:ZaV Tryz.prog Zt (fun N=>ZI Tryz.prog Zt N) 16 ZE3=true:=by kernel_rfl
theorem ZH4:ZaV Tryz.prog Zt (fun N=>ZI Tryz.prog Zt N) 17 ZFb=true:=by kernel_rfl
theorem ZI0:ZaV Tryz.prog Zt (fun N=>ZI Tryz.prog Zt N) 18 ZE4=true:=by kernel_rfl
theorem ZGG:ZaV Tryz.prog Zt (fun N=>ZI Tryz.prog Zt N) 19 ZDt=true:=by kernel_rfl
theorem ZJg:ZaV Tryz.prog Zt (fun N=>ZI Tryz.prog Zt N) 20 ZEa=true:=by kernel_rfl
theorem ZHI:ZaV Tryz.prog Zt (fun N=>ZI Tryz.prog Zt N) 21 ZEN=true:=by kernel_rfl
theorem ZGH:ZaV Tryz.prog Zt (fun N=>ZI Tryz.prog Zt N) 22 ZF4=true:=by kernel_rfl
theorem ZJj:ZaV Tryz.prog Zt (fun N=>ZI Tryz.prog Zt N) 23 ZGr=true:=by kernel_rfl
theorem ZHf:ZaV Tryz.prog Zt (fun N=>ZI Tryz.prog Zt N) 24 ZDD=true:=by kernel_rfl
theorem ZJe:ZaV Tryz.prog Zt (fun N=>ZI Tryz.prog Zt N) 25 ZEM=true:=by kernel_rfl
theorem ZJk:ZaV Tryz.prog Zt (fun N=>ZI Tryz.prog Zt N) 26 ZDA=true:=by kernel_rfl
theorem ZHz:ZaV Tryz.prog Zt (fun N=>ZI Tryz.prog Zt N) 27 ZDx=true:=by kernel_rfl
theorem ZHj:ZaV Tryz.prog Zt (fun N=>ZI Tryz.prog Zt N) 28 ZD0=true:=by kernel_rfl
theorem ZHW:ZaV Tryz.prog Zt (fun N=>ZI Tryz.prog Zt N) 29 ZD2=true:=by kernel_rfl
theorem ZGI:ZaV Tryz.prog Zt (fun N=>ZI Tryz.prog Zt N) 30 ZDJ=true:=by kernel_rfl
theorem ZGJ:ZaV Tryz.prog Zt (fun N=>ZI Tryz.prog Zt N) 31 ZD6=true:=by kernel_rfl
theorem ZHo:ZaV Tryz.prog Zt (fun N=>ZI Tryz.prog Zt N) 32 ZD1=true:=by kernel_rfl
theorem ZJd:ZaV Tryz.prog Zt (fun N=>ZI Tryz.prog Zt N) 33 ZES=true:=by kernel_rfl
theorem ZHm:ZaV Tryz.prog Zt (fun N=>ZI Tryz.prog Zt N) 34 ZDX=true:=by kernel_rfl
theorem ZGU:ZaV Tryz.prog Zt (fun N=>ZI Tryz.prog Zt N) 35 ZEA=true:=by kernel_rfl
theorem ZHa:ZaV Tryz.prog Zt (fun N=>ZI Tryz.prog Zt N) 36 ZEW=true:=by kernel_rfl
theorem ZIe:ZaV Tryz.prog Zt (fun N=>ZI Tryz.prog Zt N) 37 ZET=true:=by kernel_rfl
theorem ZHh:ZaV Tryz.prog Zt (fun N=>ZI Tryz.prog Zt N) 38 ZDp=true:=by kernel_rfl
theorem ZIA:ZaV Tryz.prog Zt (fun N=>ZI Tryz.prog Zt N) 39 ZDn=true:=by kernel_rfl
theorem ZGz:ZaV Tryz.prog Zt (fun N=>ZI Tryz.prog Zt N) 40 ZDu=true:=by kernel_rfl
theorem ZG5:ZaV Tryz.prog Zt (fun N=>ZI Tryz.prog Zt N) 41 ZEk=true:=by kernel_rfl
theorem ZIF:ZaV Tryz.prog Zt (fun N=>ZI Tryz.prog Zt N) 42 ZFc=true:=by kernel_rfl
theorem ZJb:ZaV Tryz.prog Zt (fun N=>ZI Tryz.prog Zt N) 43 ZEr=true:=by kernel_rfl
theorem ZIy:ZaV Tryz.prog Zt (fun N=>ZI Tryz.prog Zt N) 44 ZEJ=true:=by kernel_rfl
theorem ZGA:ZaV Tryz.prog Zt (fun N=>ZI Tryz.prog Zt N) 45 ZEm=true:=by kernel_rfl
theorem ZGy:ZaV Tryz.prog Zt (fun N=>ZI Tryz.prog Zt N) 46 ZEn=true:=by kernel_rfl
theorem ZGY:ZaV Tryz.prog Zt (fun N=>ZI Tryz.prog Zt N) 47 ZB2=true:=by kernel_rfl
theorem ZJh:ZaV Tryz.prog Zt (fun N=>ZI Tryz.prog Zt N) 48 ZEu=true:=by kernel_rfl
theorem ZGO:ZaV Tryz.prog Zt (fun N=>ZI Tryz.prog Zt N) 49 ZE8=true:=by kernel_rfl
theorem ZJr:ZaV Tryz.prog Zt (fun N=>ZI Tryz.prog Zt N) 50 ZFa=true:=by kernel_rfl
theorem ZHU:ZaV Tryz.prog Zt (fun N=>ZI Tryz.prog Zt N) 51 ZEj=true:=by kernel_rfl
theorem ZI5:ZaV Tryz.prog Zt (fun N=>ZI Tryz.prog Zt N) 52 ZE2=true:=by kernel_rfl
theorem ZHp:ZaV Tryz.prog Zt (fun N=>ZI Tryz.prog Zt N) 53 ZE9=true:=by kernel_rfl
theorem ZHK:ZaV Tryz.prog Zt (fun N=>ZI Tryz.prog Zt N) 54 ZD8=true:=by kernel_rfl
theorem ZIZ:ZaV Tryz.prog Zt (fun N=>ZI Tryz.prog Zt N) 55 ZDW=true:=by kernel_rfl
theorem ZIU:ZaV Tryz.prog Zt (fun N=>ZI Tryz.prog Zt N) 56 ZEl=true:=by kernel_rfl
theorem ZI8:ZaV Tryz.prog Zt (fun N=>ZI Tryz.prog Zt N) 57 ZEV=true:=by kernel_rfl
theorem ZI7:ZaV Tryz.prog Zt (fun N=>ZI Tryz.prog Zt N) 58 ZDV=true:=by kernel_rfl
theorem ZII:ZaV Tryz.prog Zt (fun N=>ZI Tryz.prog Zt N) 59 ZDF=true:=by kernel_rfl
theorem ZHu:ZaV Tryz.prog Zt (fun N=>ZI Tryz.prog Zt N) 60 ZDs=true:=by kernel_rfl
theorem ZIJ:ZaV Tryz.prog Zt (fun N=>ZI Tryz.prog Zt N) 61 ZEc=true:=by kernel_rfl
theorem ZJs:ZaV Tryz.prog Zt (fun N=>ZI Tryz.prog Zt N) 62 ZDY=true:=by kernel_rfl
theorem ZIf:ZaV Tryz.prog Zt (fun N=>ZI Tryz.prog Zt N) 63 ZEp=true:=by kernel_rfl
theorem ZG6:ZaV Tryz.prog Zt (fun N=>ZI Tryz.prog Zt N) 64 ZD3=true:=by kernel_rfl
theorem ZHR:ZaV Tryz.prog Zt (fun N=>ZI Tryz.prog Zt N) 65 ZGv=true:=by kernel_rfl
theorem ZHX:ZaV Tryz.prog Zt (fun N=>ZI Tryz.prog Zt N) 66 ZEf=true:=by kernel_rfl
theorem ZIY:ZaV Tryz.prog Zt (fun N=>ZI Tryz.prog Zt N) 67 ZFI=true:=by kernel_rfl
theorem ZIG:ZaV Tryz.prog Zt (fun N=>ZI Tryz.prog Zt N) 68 ZDy=true:=by kernel_rfl
theorem ZIH:ZaV Tryz.prog Zt (fun N=>ZI Tryz.prog Zt N) 69 ZER=true:=by kernel_rfl
theorem ZHt:ZaV Tryz.prog Zt (fun N=>ZI Tryz.prog Zt N) 70 ZEH=true:=by kernel_rfl
theorem ZJf:ZaV Tryz.prog Zt (fun N=>ZI Tryz.prog Zt N) 71 ZEq=true:=by kernel_rfl
theorem ZI1:ZaV Tryz.prog Zt (fun N=>ZI Tryz.prog Zt N) 72 ZDo=true:=by kernel_rfl
theorem ZHF:ZaV Tryz.prog Zt (fun N=>ZI Tryz.prog Zt N) 73 ZB6=true:=by kernel_rfl
theorem ZHr:ZaV Tryz.prog Zt (fun N=>ZI Tryz.prog Zt N) 74 ZEv=true:=by kernel_rfl
theorem ZIi:ZaV Tryz.prog Zt (fun N=>ZI Tryz.prog Zt N) 75 ZD5=true:=by kernel_rfl
theorem ZId:ZaV Tryz.prog Zt (fun N=>ZI Tryz.prog Zt N) 76 ZD4=true:=by kernel_rfl
theorem ZGS:ZaV Tryz.prog Zt (fun N=>ZI Tryz.prog Zt N) 77 ZDw=true:=by kernel_rfl
theorem ZHi:ZaV Tryz.prog Zt (fun N=>ZI Tryz.prog Zt N) 78 ZEZ=true:=by kernel_rfl
theorem ZH5:ZaV Tryz.prog Zt (fun N=>ZI Tryz.prog Zt N) 79 ZDN=true:=by kernel_rfl
theorem ZHv:ZaV Tryz.prog Zt (fun N=>ZI Tryz.prog Zt N) 80 ZE1=true:=by kernel_rfl
theorem ZHe:ZaV Tryz.prog Zt (fun N=>ZI Tryz.prog Zt N) 81 ZDK=true:=by kernel_rfl
theorem ZGE:ZaV Tryz.prog Zt (fun N=>ZI Tryz.prog Zt N) 82 ZEP=true:=by kernel_rfl
theorem ZI2:ZaV Tryz.prog Zt (fun N=>ZI Tryz.prog Zt N) 83 ZDL=true:=by kernel_rfl
theorem ZIa:ZaV Tryz.prog Zt (fun N=>ZI Tryz.prog Zt N) 84 ZEB=true:=by kernel_rfl
theorem ZHd:ZaV Tryz.prog Zt (fun N=>ZI Tryz.prog Zt N) 85 ZDB=true:=by kernel_rfl
theorem ZIT:ZaV Tryz.prog Zt (fun N=>ZI Tryz.prog Zt N) 86 ZEC=true:=by kernel_rfl
theorem ZGD:ZaV Tryz.prog Zt (fun N=>ZI Tryz.prog Zt N) 87 ZEw=true:=by kernel_rfl
theorem ZHB:ZaV Tryz.prog Zt (fun N=>ZI Tryz.prog Zt N) 88 ZEt=true:=by kernel_rfl
theorem ZGN:ZaV Tryz.prog Zt (fun N=>ZI Tryz.prog Zt N) 89 ZEe=true:=by kernel_rfl
theorem ZIp:ZaV Tryz.prog Zt (fun N=>ZI Tryz.prog Zt N) 90 ZEL=true:=by kernel_rfl
theorem ZHA:ZaV Tryz.prog Zt (fun N=>ZI Tryz.prog Zt N) 91 ZEb=true:=by kernel_rfl
theorem ZJa:ZaV Tryz.prog Zt (fun N=>ZI Tryz.prog Zt N) 92 ZDv=true:=by kernel_rfl
theorem ZIh:ZaV Tryz.prog Zt (fun N=>ZI Tryz.prog Zt N) 93 ZEs=true:=by kernel_rfl
theorem ZG9:ZaV Tryz.prog Zt (fun N=>ZI Tryz.prog Zt N) 94 ZGc=true:=by kernel_rfl
theorem ZGW:ZaV Tryz.prog Zt (fun N=>ZI Tryz.prog Zt N) 95 ZEo=true:=by kernel_rfl
theorem ZGF:ZaV Tryz.prog Zt (fun N=>ZI Tryz.prog Zt N) 96 ZDU=true:=by kernel_rfl
theorem ZIv:ZaV Tryz.prog Zt (fun N=>ZI Tryz.prog Zt N) 97 ZEi=true:=by kernel_rfl
theorem ZIS:ZaV Tryz.prog Zt (fun N=>ZI Tryz.prog Zt N) 98 ZEQ=true:=by kernel_rfl
theorem ZIB:ZaV Tryz.prog Zt (fun N=>ZI Tryz.prog Zt N) 99 ZDz=true:=by kernel_rfl
theorem ZFt:ZaV Tryz.prog Zt (fun N=>ZI Tryz.prog Zt N) 100 ZBo=true:=by kernel_rfl
theorem ZFs:ZaV Tryz.prog Zt (fun N=>ZI Tryz.prog Zt N) 101 ZzO=true:=by kernel_rfl
theorem ZGb:ZaV Tryz.prog Zt (fun N=>ZI Tryz.prog Zt N) 102 ZAb=true:=by kernel_rfl
theorem ZFg:ZaV Tryz.prog Zt (fun N=>ZI Tryz.prog Zt N) 103 ZAq=true:=by kernel_rfl
theorem ZFw:ZaV Tryz.prog Zt (fun N=>ZI Tryz.prog Zt N) 104 ZzX=true:=by kernel_rfl
theorem ZFP:ZaV Tryz.prog Zt (fun N=>ZI Tryz.prog Zt N) 105 ZA7=true:=by kernel_rfl
theorem ZFV:ZaV Tryz.prog Zt (fun N=>ZI Tryz.prog Zt N) 106 ZzS=true:=by kernel_rfl
theorem ZFf:ZaV Tryz.prog Zt (fun N=>ZI Tryz.prog Zt N) 107 ZAg=true:=by kernel_rfl
theorem ZFX:ZaV Tryz.prog Zt (fun N=>ZI Tryz.prog Zt N) 108 Zz2=true:=by kernel_rfl
theorem ZGa:ZaV Tryz.prog Zt (fun N=>ZI Tryz.prog Zt N) 109 ZAo=true:=by kernel_rfl
theorem ZFh:ZaV Tryz.prog Zt (fun N=>ZI Tryz.prog Zt N) 110 ZzZ=true:=by kernel_rfl
theorem ZGs:ZaV Tryz.prog Zt (fun N=>ZI Tryz.prog Zt N) 111 Zy7=true:=by kernel_rfl
theorem ZF3:ZaV Tryz.prog Zt (fun N=>ZI Tryz.prog Zt N) 112 ZBB=true:=by kernel_rfl
theorem ZFD:ZaV Tryz.prog Zt (fun N=>ZI Tryz.prog Zt N) 113 ZBP=true:=by kernel_rfl
theorem ZGj:ZaV Tryz.prog Zt (fun N=>ZI Tryz.prog Zt N) 114 ZAc=true:=by kernel_rfl
theorem ZFC:ZaV Tryz.prog Zt (fun N=>ZI Tryz.prog Zt N) 115 ZBp=true:=by kernel_rfl
theorem ZFW:ZaV Tryz.prog Zt (fun N=>ZI Tryz.prog Zt N) 132 ZDm=true:=by kernel_rfl
theorem ZFB:ZaV Tryz.prog Zt (fun N=>ZI Tryz.prog Zt N) 133 ZDa=true:=by kernel_rfl
theorem ZFS:ZaV Tryz.prog Zt (fun N=>ZI Tryz.prog Zt N) 134 ZCY=true:=by kernel_rfl
theorem ZGd:ZaV Tryz.prog Zt (fun N=>ZI Tryz.prog Zt N) 135 ZC6=true:=by kernel_rfl
theorem ZGl:ZaV Tryz.prog Zt (fun N=>ZI Tryz.prog Zt N) 136 ZDg=true:=by kernel_rfl
theorem ZF9:ZaV Tryz.prog Zt (fun N=>ZI Tryz.prog Zt N) 137 ZC1=true:=by kernel_rfl
theorem ZFT:∀f fn,ctx.code f=some fn→ZaV Tryz.prog Zt (fun N=>ZI Tryz.prog Zt N) f fn=true∨Zsq Tryz.prog f fn:=by
 intro f fn h
 change code f=some fn at h
 unfold code at h
 split at h
 ·cases h;exact .inl ok3
 ·cases h;exact .inl ok4
 ·cases h;exact .inl ok5
 ·cases h;exact .inl ok6
 ·cases h;exact .inl ok7
 ·cases h;exact .inl ok8
 ·cases h;exact .inl ok9
 ·cases h;exact .inl ZGL
 ·cases h;exact .inl ZIV
 ·cases h;exact .inl ZI9
 ·cases h;exact .inl ZHO
 ·cases h;exact .inl ZIj
 ·cases h;exact .inl ZHV
 ·cases h;exact .inl ZJm
 ·cases h;exact .inl ZH4
 ·cases h;exact .inl ZI0
 ·cases h;exact .inl ZGG
 ·cases h;exact .inl ZJg
 ·cases h;exact .inl ZHI
 ·cases h;exact .inl ZGH
 ·cases h;exact .inl ZJj
 ·cases h;exact .inl ZHf
 ·cases h;exact .inl ZJe
 ·cases h;exact .inl ZJk
 ·cases h;exact .inl ZHz
 ·cases h;exact .inl ZHj
 ·cases h;exact .inl ZHW
 ·cases h;exact .inl ZGI
 ·cases h;exact .inl ZGJ
 ·cases h;exact .inl ZHo
 ·cases h;exact .inl ZJd
 ·cases h;exact .inl ZHm
 ·cases h;exact .inl ZGU
 ·cases h;exact .inl ZHa
 ·cases h;exact .inl ZIe
 ·cases h;exact .inl ZHh
 ·cases h;exact .inl ZIA
 ·cases h;exact .inl ZGz
 ·cases h;exact .inl ZG5
 ·cases h;exact .inl ZIF
 ·cases h;exact .inl ZJb
 ·cases h;exact .inl ZIy
 ·cases h;exact .inl ZGA
 ·cases h;exact .inl ZGy
 ·cases h;exact .inl ZGY
 ·cases h;exact .inl ZJh
 ·cases h;exact .inl ZGO
 ·cases h;exact .inl ZJr
 ·cases h;exact .inl ZHU
 ·cases h;exact .inl ZI5
 ·cases h;exact .inl ZHp
 ·cases h;exact .inl ZHK
 ·cases h;exact .inl ZIZ
 ·cases h;exact .inl ZIU
 ·cases h;exact .inl ZI8
 ·cases h;exact .inl ZI7
 ·cases h;exact .inl ZII
 ·cases h;exact .inl ZHu
 ·cases h;exact .inl ZIJ
 ·cases h;exact .inl ZJs
 ·cases h;exact .inl ZIf
 ·cases h;exact .inl ZG6
 ·cases h;exact .inl ZHR
 ·cases h;exact .inl ZHX
 ·cases h;exact .inl ZIY
 ·cases h;exact .inl ZIG
 ·cases h;exact .inl ZIH
 ·cases h;exact .inl ZHt
 ·cases h;exact .inl ZJf
 ·cases h;exact .inl ZI1
 ·cases h;exact .inl ZHF
 ·cases h;exact .inl ZHr
 ·cases h;exact .inl ZIi
 ·cases h;exact .inl ZId
 ·cases h;exact .inl ZGS
 ·cases h;exact .inl ZHi
 ·cases h;exact .inl ZH5
 ·cases h;exact .inl ZHv
 ·cases h;exact .inl ZHe
 ·cases h;exact .inl ZGE
 ·cases h;exact .inl ZI2
 ·cases h;exact .inl ZIa
 ·cases h;exact .inl ZHd
 ·cases h;exact .inl ZIT
 ·cases h;exact .inl ZGD
 ·cases h;exact .inl ZHB
 ·cases h;exact .inl ZGN
 ·cases h;exact .inl ZIp
 ·cases h;exact .inl ZHA
 ·cases h;exact .inl ZJa
 ·cases h;exact .inl ZIh
 ·cases h;exact .inl ZG9
 ·cases h;exact .inl ZGW
 ·cases h;exact .inl ZGF
 ·cases h;exact .inl ZIv
 ·cases h;exact .inl ZIS
 ·cases h;exact .inl ZIB
 ·cases h;exact .inl ZFt
 ·cases h;exact .inl ZFs
 ·cases h;exact .inl ZGb
 ·cases h;exact .inl ZFg
 ·cases h;exact .inl ZFw
 ·cases h;exact .inl ZFP
 ·cases h;exact .inl ZFV
 ·cases h;exact .inl ZFf
 ·cases h;exact .inl ZFX
 ·cases h;exact .inl ZGa
 ·cases h;exact .inl ZFh
 ·cases h;exact .inl ZGs
 ·cases h;exact .inl ZF3
 ·cases h;exact .inl ZFD
 ·cases h;exact .inl ZGj
 ·cases h;exact .inl ZFC
 ·cases h;exact .inl ZFW
 ·cases h;exact .inl ZFB
 ·cases h;exact .inl ZFS
 ·cases h;exact .inl ZGd
 ·cases h;exact .inl ZGl
 ·cases h;exact .inl ZF9
 ·cases h
theorem ZF0:Ziv Tryz.prog Zt (evW ctx):=Zzn ZFT
end Go.Proofs.YtnpidpcmpleiaaaGreatDoor
namespace Go.Proofs.YtnpidpcmpleiaaaGreatDoorE
open Go
open Go.IntKind (u64 i64 u32 i32 u8)
inductive Lf where
 | bool | int (k:IntKind) | str | sl (ag:Bool) (els:List Lf)
mutual
def ZCy:Lf→D→Prop
 | .bool,x=>∃b,x = .bool b
 | .int k,x=>∃n,x = .int k n∧(Lit.int k n).wf=true
 | .str,x=>∃s,x = .str s∧s.size≤maxLen
 | .sl ag els,x=>∃xs,x = .list true xs∧xs.length≤maxLen∧∀y∈xs,y.isAgg=ag∧Zkm els y.cells
def Zkm:List Lf→List D→Prop
 | [],ds=>ds=[]
 | l :: ls,ds=>∃d r,ds=d :: r∧ZCy l d∧Zkm ls r
end
def Zmo (P:Program) (g:TypeId→Option (List Lf×Bool)):Nat→List Field→Option (List Lf)
 | _,[]=>some []
 | off,f :: fs=>match g f.type with
  | some (l,_)=>(match Zmo P g (off+l.length) fs with
   | some r=>bif Nat.beq f.offset off&&Nat.beq (P.cellsOf f.type) l.length then some (l++r) else none
   | none=>none)
  | none=>none
def lfs (P:Program):Nat→TypeId→Option (List Lf×Bool)
 | 0,_=>none
 | n+1,t=>match P.underlying t with
  | some .bool=>some ([.bool],false)
  | some (.int k)=>some ([.int k],false)
  | some .string=>some ([.str],false)
  | some (.slice e)=>(match lfs P n e with | some (l,ag)=>bif Nat.beq (P.cellsOf e) l.length&&Nat.blt 0 l.length then some ([.sl ag l],false) else none | none=>none)
  | some (.struct fs)=>(match Zmo P (lfs P n) 0 fs.toList with | some l=>bif Nat.beq (P.cellsOf t) l.length then some (l,true) else none | none=>none)
  | _=>none
mutual
theorem Zv1:∀(l:Lf) (x:D),ZCy l x→x.esc=true∧x.isAgg=false∧x.cells=[x]
 | .bool,x,h=>by obtain⟨b,rfl⟩:=h;exact⟨rfl,rfl,rfl⟩
 | .int k,x,h=>by obtain⟨n,rfl,_⟩:=h;exact⟨rfl,rfl,rfl⟩
 | .str,x,h=>by obtain⟨s,rfl,_⟩:=h;exact⟨rfl,rfl,rfl⟩
 | .sl ag els,x,h=>by obtain⟨xs,rfl,_⟩:=h;exact⟨rfl,rfl,rfl⟩
theorem Zt8:∀(ls:List Lf) (ds:List D),Zkm ls ds→D.escs ds=true∧ds.length=ls.length
 | [],ds,h=>by obtain rfl:=h;exact⟨rfl,rfl⟩
 | l :: ls,ds,h=>by
  obtain⟨d,r,rfl,h1,h2⟩:=h
  obtain⟨e1,e2,_⟩:=Zv1 l d h1
  obtain⟨e3,e4⟩:=Zt8 ls r h2
  exact⟨by simp[D.escs,e1,e2,e3],by simp[e4]⟩
end
theorem ZtS:∀(l r:List Lf) (ds es:List D),Zkm l ds→Zkm r es→Zkm (l++r) (ds++es)
 | [],r,ds,es,h,k=>by obtain rfl:=h;exact k
 | a :: l,r,ds,es,h,k=>by
  obtain⟨d,ds',rfl,h1,h2⟩:=h
  exact⟨d,ds'++es,rfl,h1,ZtS l r ds' es h2 k⟩
section
variable {H:Type} {enc:TypeId×Value→H} {P:Program} {W:World} {sp:Nat→Bool} {held:Bool}
abbrev All:Nat→Prop:=fun _=>True
theorem ZtW:∀(ds es:List D) (us vs:List Value),ZbP All All All W ds us→ZbP All All All W es vs→ZbP All All All W (ds++es) (us++vs)
 | [],es,us,vs,h,k=>by obtain rfl:=h;exact k
 | x :: ds,es,us,vs,h,k=>by
  obtain⟨u,us',rfl,h1,h2⟩:=h
  exact⟨u,us'++vs,rfl,h1,ZtW ds es us' vs h2 k⟩
theorem ZvD {a:Addr}{n:Nat}{cs:List Value} (h:W.cells? 0 a n=some cs):cs.length=n∧∀k,k<n→W.cell? (a.add k)=cs[k]?:=by
 unfold World.cells? at h
 rw[if_pos (Nat.zero_le _)] at h
 exact⟨by simpa using mapM_some_length h,fun k hk=>mapM_some_get h k k (by simp[hk])⟩
theorem Ztu {g:TypeId→Option (List Lf×Bool)}{m:Nat}{cs:List Value}
  (hg:∀t l ag cs x,g t=some (l,ag)→DataW.trod enc P W 0 sp held m t cs=some x→∃ds,ZbP All All All W ds cs∧Zkm l ds) :
  ∀(fs:List Field) (off:Nat) (l:List Lf) (xs:List (DataW H×List MemPlace)),Zmo P g off fs=some l→xs.length=fs.length→off+l.length≤cs.length →
   (∀(i:Nat) f,fs[i]? = some f→DataW.trod enc P W 0 sp held m f.type ((cs.drop f.offset).take (P.cellsOf f.type))=xs[i]?)→∃ds,ZbP All All All W ds ((cs.drop off).take l.length)∧Zkm l ds
 | [],off,l,xs,h,_,_,_=>by
  simp only[Zmo,Option.some.injEq] at h
  subst h
  exact⟨[],by simp[ZbP],rfl⟩
 | f :: fs,off,l,xs,h,hl,hle,hx=>by
  simp only[Zmo] at h
  cases hgf:g f.type with
  | none=>rw[hgf] at h;cases h
  | some q=>
   obtain⟨l1,ag⟩:=q
   rw[hgf] at h
   dsimp only at h
   cases hr:Zmo P g (off+l1.length) fs with
   | none=>rw[hr] at h;cases h
   | some r=>
    rw[hr] at h
    dsimp only at h
    cases hc:(Nat.beq f.offset off&&Nat.beq (P.cellsOf f.type) l1.length) with
    | false=>rw[hc] at h;cases h
    | true=>
     rw[hc] at h
     simp only[cond_true,Option.some.injEq] at h
     subst h
     simp only[Bool.and_eq_true] at hc
     have h1:=Nat.eq_of_beq_eq_true hc.1
     have h2:=Nat.eq_of_beq_eq_true hc.2
     rw[List.length_append] at hle
     cases xs with
     | nil=>simp at hl
     | cons x xs=>
      have hx0:=hx 0 f rfl
      rw[h1,h2] at hx0
      simp only[List.getElem?_cons_zero] at hx0
      obtain⟨d1,e1,e2⟩:=hg f.type l1 ag _ x hgf hx0
      obtain⟨d2,e3,e4⟩:=Ztu (cs:=cs) hg fs (off+l1.length) r xs hr (by simpa using hl) (by omega) (fun i f' hf'=>by simpa using hx (i+1) f' (by simpa using hf'))
      refine⟨d1++d2,?_,ZtS _ _ _ _ e2 e4⟩
      have hspl:(cs.drop off).take (l1++r).length=(cs.drop off).take l1.length++(cs.drop (off+l1.length)).take r.length:=by
       rw[List.length_append,List.take_add,List.drop_drop]
      rw[hspl]
      exact ZtW _ _ _ _ e1 e3
theorem ZsY:∀(n:Nat) (t:TypeId) (l:List Lf) (ag:Bool),lfs P n t=some (l,ag)→∀(fuel:Nat) (cs:List Value) (x:DataW H×List MemPlace),DataW.trod enc P W 0 sp held fuel t cs=some x →
  ∃ds,ZbP All All All W ds cs∧Zkm l ds∧(ag=false→∃u y,cs=[u]∧ds=[y]∧u.cells = #[u]∧y.isAgg=false)
 | 0,t,l,ag,h,fuel,cs,x,hx=>by cases h
 | n+1,t,l,ag,h,fuel,cs,x,hx=>by
  simp only[lfs] at h
  split at h
  ·rename_i ht
   cases h
   obtain⟨b,rfl,_⟩:=DataW.trod_bool ht hx
   exact⟨[.bool b],⟨_,_,rfl,rfl,rfl⟩,⟨_,_,rfl,⟨b,rfl⟩,rfl⟩,fun _=>⟨_,_,rfl,rfl,rfl,rfl⟩⟩
  ·rename_i k ht
   cases h
   obtain⟨m,rfl,_,hw⟩:=DataW.trod_int ht hx
   exact⟨[.int k m],⟨_,_,rfl,rfl,rfl⟩,⟨_,_,rfl,⟨m,rfl,hw⟩,rfl⟩,fun _=>⟨_,_,rfl,rfl,rfl,rfl⟩⟩
  ·rename_i ht
   cases h
   obtain⟨s,rfl,_,hs⟩:=DataW.trod_string ht hx
   exact⟨[.str s],⟨_,_,rfl,rfl,rfl⟩,⟨_,_,rfl,⟨s,rfl,hs⟩,rfl⟩,fun _=>⟨_,_,rfl,rfl,rfl,rfl⟩⟩
  ·rename_i e ht
   cases he:lfs P n e with
   | none=>rw[he] at h;cases h
   | some q=>
    obtain⟨le,age⟩:=q
    rw[he] at h
    dsimp only at h
    cases hc:(Nat.beq (P.cellsOf e) le.length&&Nat.blt 0 le.length) with
    | false=>rw[hc] at h;cases h
    | true=>
     rw[hc] at h
     simp only[cond_true,Option.some.injEq,Prod.mk.injEq] at h
     obtain⟨rfl,rfl⟩:=h
     simp only[Bool.and_eq_true] at hc
     have hsz:=Nat.eq_of_beq_eq_true hc.1
     have hpos:0<le.length:=by have:=hc.2;simp[Nat.blt] at this;omega
     rcases Go.Deep.open_slice ht hx with⟨rfl,_⟩ | ⟨a,len,cap,m,fu,Dd,Pl,rfl,_,hlc,hcap,hm,_,hel⟩
     ·exact⟨[.list true []],⟨_,_,rfl,⟨_,0,0,rfl,rfl,Nat.le_refl _,by simp,by simp⟩,rfl⟩,⟨_,_,rfl,⟨[],rfl,by simp,by simp⟩,rfl⟩,fun _=>⟨_,_,rfl,rfl,rfl,rfl⟩⟩
     ·rw[hsz] at hel
      have hlm:len≤m:=by rw[hm];split<;>omega
      have each:∀i,i<len→∃y u,Zca All All All W y u∧y.isAgg=age∧Zkm le y.cells∧u.cells.size=le.length∧(∀k v,u.cells[k]? = some v→W.cell? ((a.add (i*le.length)).add k)=some v)∧y.esc=true:=fun i hi=>by
       obtain⟨cs',h1,h2⟩:=hel i (by omega)
       obtain⟨c1,c2⟩:=ZvD h1
       obtain⟨ds,d1,d2,d3⟩:=ZsY n e le age he fu cs' _ h2
       obtain⟨s1,s2⟩:=Zt8 _ _ d2
       cases age with
       | true=>
        refine⟨.agg ds,.agg cs'.toArray,⟨cs',rfl,d1⟩,rfl,d2,by simpa [Value.cells] using c1,fun k v hk=>?_,s1⟩
        have hk':cs'[k]? = some v:=by simpa [Value.cells] using hk
        rw[c2 k (by rw[← c1];exact(List.getElem?_eq_some_iff.1 hk').1)];exact hk'
       | false=>
        obtain⟨u,y,rfl,rfl,e1,e2⟩:=d3 rfl
        obtain⟨u',us',f1,f2,_⟩:=d1
        cases f1
        have hy:y.cells=[y]:=by
         cases y<;>first | rfl | (simp[D.isAgg] at e2)
        have hesc:y.esc=true:=by
         match le,d2,hpos with
         | l0 :: ls,d2,_=>
          obtain⟨d,r,g1,g2,_⟩:=d2
          cases g1
          exact(Zv1 l0 y g2).1
        refine⟨y,u,f2,e2,by rw[hy];exact d2,by rw[e1,← c1];rfl,fun k v hk=>?_,hesc⟩
        rw[e1] at hk
        have hk0:k=0:=by
         have:=(Array.getElem?_eq_some_iff.1 hk).1;simp at this;exact this
        subst hk0
        simp at hk;subst hk
        rw[c2 0 (by omega)];rfl
      have all:∀j,j≤len→∃ys:List D,ys.length=j∧(∀y∈ys,y.isAgg=age∧Zkm le y.cells∧y.esc=true)∧∀(i:Nat) y,ys[i]? = some y→∃u,Zca All All All W y u∧u.cells.size=le.length∧∀k v,u.cells[k]? = some v→W.cell? ((a.add (i*le.length)).add k)=some v:=by
       intro j
       induction j with
       | zero=>intro _;exact⟨[],rfl,by simp,by simp⟩
       | succ j ih=>
        intro hj
        obtain⟨ys,y1,y2,y3⟩:=ih (by omega)
        obtain⟨y,u,z1,z2,z3,z4,z5,z6⟩:=each j (by omega)
        refine⟨ys++[y],by simp[y1],fun z hz=>?_,fun i z hz=>?_⟩
        ·rcases List.mem_append.1 hz with hz | hz
         ·exact y2 z hz
         ·simp at hz;subst hz;exact⟨z2,z3,z6⟩
        ·by_cases hi:i<ys.length
         ·rw[List.getElem?_append_left hi] at hz;exact y3 i z hz
         ·rw[List.getElem?_append_right (by omega)] at hz
          have hij:i-ys.length=0:=by
           have:=(List.getElem?_eq_some_iff.1 hz).1;simp at this;omega
          rw[hij] at hz
          simp at hz;subst hz
          have:i=j:=by omega
          subst this
          exact⟨u,z1,z4,z5⟩
      obtain⟨ys,y1,y2,y3⟩:=all len (Nat.le_refl _)
      refine⟨[.list true ys],⟨_,_,rfl,⟨_,len,cap,rfl,y1.symm,hlc,fun z hz=>(y2 z hz).2.2,fun hne=>?_⟩,rfl⟩,⟨_,_,rfl,⟨ys,rfl,by omega,fun z hz=>⟨(y2 z hz).1,(y2 z hz).2.1⟩⟩,rfl⟩,fun _=>⟨_,_,rfl,rfl,rfl,rfl⟩⟩
      have hlen:0<len:=by
       rw[← y1];exact List.length_pos_iff.2 hne
      obtain⟨cs0,h1,_⟩:=hel 0 (by omega)
      obtain⟨c1,c2⟩:=ZvD h1
      have c3:=c2 0 hpos
      have hcell:∃v,W.cell? a=some v:=by
       refine⟨cs0[0]'(by omega),?_⟩
       have e0:(a.add (0*le.length)).add 0=a:=by simp[Addr.add]
       rw[e0] at c3
       rw[c3];exact List.getElem?_eq_getElem (by omega)
      obtain⟨v,hv⟩:=hcell
      have hspot:a.spot=none∧a.block<W.heap.size:=by
       unfold World.cell? at hv
       split at hv
       ·rename_i hb
        cases hsx:a.spot with
        | none=>exact⟨rfl,(Array.getElem?_eq_some_iff.1 hb).1⟩
        | some z=>rw[hsx] at hv;simp at hv
       ·cases hv
      obtain⟨b,off,spot⟩:=a
      obtain⟨hs1,hs2⟩:=hspot
      simp only at hs1 hs2
      subst hs1
      refine⟨b,off,le.length,rfl,trivial,hs2,Zl0 ys off fun j y hj=>?_⟩
      obtain⟨u,u1,u2,u3⟩:=y3 j y hj
      refine⟨u,u1,u2,fun k v hk=>?_⟩
      rw[← u3 k v hk]
      congr 1
      unfold Addr.add
      by_cases hj0:j*le.length=0
      ·by_cases hk0:k=0<;>simp[hj0,hk0]
      ·by_cases hk0:k=0<;>simp[hj0,hk0]
  ·rename_i fs ht
   cases hf:Zmo P (lfs P n) 0 fs.toList with
   | none=>rw[hf] at h;cases h
   | some l'=>
    rw[hf] at h
    dsimp only at h
    cases hc:Nat.beq (P.cellsOf t) l'.length with
    | false=>rw[hc] at h;cases h
    | true=>
     rw[hc] at h
     simp only[cond_true,Option.some.injEq,Prod.mk.injEq] at h
     obtain⟨rfl,rfl⟩:=h
     have hcl:=Nat.eq_of_beq_eq_true hc
     obtain⟨xs,m,_,_,hlen,hxl,hxs⟩:=DataW.trod_struct ht hx
     have hlen':cs.length=l'.length:=hlen.trans hcl
     obtain⟨ds,e1,e2⟩:=Ztu (m:=m) (cs:=cs) (g:=lfs P n) (fun t l ag cs x hg hx=>by
      obtain⟨ds,d1,d2,_⟩:=ZsY n t l ag hg m cs x hx
      exact⟨ds,d1,d2⟩) fs.toList 0 l' xs hf (by simpa using hxl) (by omega) (fun i f hf'=>hxs i f (by simpa using hf'))
     refine⟨ds,?_,e2,fun h=>by cases h⟩
     have:(cs.drop 0).take l'.length=cs:=by rw[List.drop_zero,List.take_of_length_le (by omega)]
     rw[this] at e1;exact e1
  ·cases h
def ZCp (ag:Bool) (ds:List D):D:=match ag,ds with | true,ds=>.agg ds | false,d :: _=>d | false,[]=>.nilp
theorem ZDM {n:Nat}{t:TypeId}{l:List Lf}{ag:Bool} (h:lfs P n t=some (l,ag)) {base:Nat}{v:Value}{d:DataW H}{ps:List MemPlace} (hv:Value.okWide P W .any base t v) (hx:DataW.Trod enc P W 0 sp held t v d ps) :
  ∃ds,Zkm l ds∧Zca All All All W (ZCp ag ds) v:=by
 obtain⟨fuel,hf⟩:=hx
 obtain⟨ds,d1,d2,d3⟩:=ZsY n t l ag h fuel _ _ hf
 refine⟨ds,d2,?_⟩
 have one:ag=false→v.cells = #[v]→Zca All All All W (ZCp ag ds) v:=fun hag hc=>by
  subst hag
  obtain⟨u,y,e1,rfl,_,_⟩:=d3 rfl
  rw[hc] at e1
  cases e1
  obtain⟨u',us',f1,f2,_⟩:=d1
  rw[hc] at f1
  cases f1
  exact f2
 cases n with
 | zero=>cases h
 | succ n=>
  simp only[lfs] at h
  split at h
  ·rename_i ht
   cases h
   obtain⟨b,rfl⟩:=Go.WideShapes.okWide_bool ht hv
   exact one rfl rfl
  ·rename_i k ht
   cases h
   obtain⟨b,rfl⟩:=Go.WideShapes.okWide_int ht hv
   exact one rfl rfl
  ·rename_i ht
   cases h
   obtain⟨b,rfl⟩:=Go.WideShapes.okWide_string ht hv
   exact one rfl rfl
  ·rename_i e ht
   obtain⟨a,len,cap,rfl⟩:=Go.WideShapes.okWide_slice ht hv
   split at h
   ·rename_i le age hq
    cases hc:(Nat.beq (P.cellsOf e) le.length&&Nat.blt 0 le.length) with
    | false=>rw[hc] at h;cases h
    | true=>rw[hc] at h;cases h;exact one rfl rfl
   ·cases h
  ·rename_i fs ht
   obtain⟨cs,rfl,_⟩:=Go.WideShapes.okWide_struct ht hv
   split at h
   ·rename_i q hq
    cases hc:Nat.beq (P.cellsOf t) q.length with
    | false=>rw[hc] at h;cases h
    | true=>
     rw[hc] at h
     cases h
     exact⟨cs.toList,by simp,by simpa [Value.cells] using d1⟩
   ·cases h
  ·cases h
end
end Go.Proofs.YtnpidpcmpleiaaaGreatDoorE
namespace Go.Proofs.YtnpidpcmpleiaaaGreatDoorE
open Go
open Go.IntKind (u64 i64 u32 i32 u8)
def R0:RP:={ B1:=fun _=>False,B0:=fun _=>False,M:=fun _=>none,H:=[] }
section
variable {P:Program} {G:Zcu} {Γ:Ctx} {W:World}
theorem ZmK (c:Nat):¬R0.live c:=by
 rintro ⟨i,h,_⟩
 simp[R0,ZaY,nth] at h
theorem ZFj:R0.OK W where
 b01:=fun c h=>h.elim
 al:=fun i blk h=>by simp[R0] at h
 inj:=fun i j c h=>by simp[R0,ZaY,nth] at h
 lt:=fun i c h=>by cases h
 blk:=fun i m blk h=>by simp[R0] at h
 nb:=fun i c h=>by simp[R0,ZaY,nth] at h
 bl:=fun c h=>h.elim
theorem ZD7 {x:D}{u:Value} (h:Zca All All All W x u):R0.den W x u:=
 Zca.change _ _ _ _ (fun b _ _=>⟨ZmK b,fun h=>h⟩) (fun b _ _=>⟨ZmK b,fun h=>h⟩) (fun b _ _=>ZmK b) (fun _ _ _=>rfl) (Nat.le_refl _) (fun _ _=>trivial) (fun _ _=>trivial) x u h
theorem ZCi {xs:List D}{us:List Value} (h:ZbP All All All W xs us):Zby R0 W (Zd1 xs) us:=
 (ZeU xs us).2 (ZbP.change _ _ _ _ (fun b _ _=>⟨ZmK b,fun h=>h⟩) (fun b _ _=>⟨ZmK b,fun h=>h⟩) (fun b _ _=>ZmK b) (fun _ _ _=>rfl) (Nat.le_refl _) (fun _ _=>trivial) (fun _ _=>trivial) xs us h)
theorem ZyP (hs:Ziv P G (evW Γ)) (hg:GOK G R0 W) {f:Nat}{xs:List D}{us:List Value} (hd:ZbP All All All W xs us) {H':Zs} (he:evW Γ f (Zd1 xs) []=some (.d (.bool true),H')) :
  Calls P f us.toArray W fun e W'=>e = .returned (.bool true)∧Go.RowKit.Below W.heap.size W W':=by
 obtain⟨_,h⟩:=hs f (Zd1 xs) [] _ _ he
 refine(h R0 W us ZFj hg rfl (fun i _=>rfl) (ZCi hd)).mono fun e W' ⟨u,h1,R',x,ok,hH,hv,_,_⟩=>?_
 have hu:u = .bool true:=hv
 subst hu
 exact⟨h1,⟨x.os,x.tape,x.output,x.grow,fun k hk=>x.same k hk (ZmK k)⟩⟩
def Zpn (l:List (IntKind×Int)):List (DataW Unit):=l.map fun q=>.lit (.int q.1 q.2)
theorem Zv9 {n:String}{d:DataW Unit}:∀{L:List (String×DataW Unit)}{ps:List MemPlace},DataW.LaidVars P W L ps→(n,d)∈L →
  ∃g t cs fuel p,P.globalNamed n=some g∧(P.globals[g]?).map (·.type)=some t∧W.var? P n=some cs∧DataW.trod (fun _=>()) P W 0 (fun _=>true) false fuel t cs.toList=some (d,p)
 | [],_,_,h=>by cases h
 | (m,e) :: L,ps,h,hm=>by
  obtain⟨g,t,cs,fuel,p,q,h1,h2,h3,h4,h5,_⟩:=h
  rcases List.mem_cons.1 hm with hm | hm
  ·cases hm;exact⟨g,t,cs,fuel,p,h1,h2,h3,h4⟩
  ·exact Zv9 h5 hm
theorem ZsV {L:List (String×DataW Unit)} (h:laidMetH P L W) (hl:(L.all fun x=>x.2.handleName?.isNone)=true) {n:String}{l:List (IntKind×Int)} (hm:(n,DataW.agg (Zpn l))∈L) {g t N e:Nat}{k:IntKind}
  (hg:P.globalNamed n=some g) (ht:(P.globals[g]?).map (·.type)=some t) (hu:P.underlying t=some (.array N e)) (he:P.underlying e=some (.int k)) (hc:P.cellsOf e=1) (hN:l.length=N) (hne:0<N) :
  R0.den W (.rptr (gD l)) (.pointer (some ⟨g,0,none⟩)):=by
 rw[MakeChecks.laidMetH_plain _ _ _ hl] at h
 obtain⟨ps,hL,_,_⟩:=h
 obtain⟨g',t',cs,fuel,p,h1,h2,h3,h4⟩:=Zv9 hL hm
 obtain rfl:=Option.some.inj (hg.symm.trans h1)
 obtain rfl:=Option.some.inj (ht.symm.trans h2)
 obtain⟨xs,m,_,hx,hlen,hxn,hel⟩:=DataW.trod_array hu h4
 have hmap:Zpn l=xs.map (·.1):=by
  have:=(Prod.mk.inj hx).1
  exact DataW.agg.inj this
 have cell:∀(i:Nat) q,l[i]? = some q→W.cell? ⟨g,i,none⟩=some (.int q.1 q.2):=fun i q hq=>by
  have hi:i<N:=by rw[← hN];exact(List.getElem?_eq_some_iff.1 hq).1
  have hi2:i<xs.length:=by omega
  have e1:=hel i hi
  rw[List.getElem?_eq_getElem hi2] at e1
  obtain⟨z,z1,z2,_⟩:=DataW.trod_int he e1
  have e3:(Zpn l)[i]? = some (xs[i]'hi2).1:=by rw[hmap];simp[hi2]
  rw[z2] at e3
  have e4:(Zpn l)[i]? = some (.lit (.int q.1 q.2)):=by simp[Zpn,hq]
  rw[e4] at e3
  have e5:q.1=k∧q.2=z:=by
   have:=Option.some.inj e3
   simpa using this
  rw[World.var?_cell h1 h3 i,hc] at *
  have e6:(cs.toList.drop (i*1)).take 1=[.int k z]:=z1
  have e7:cs.toList[i]? = some (.int k z):=by
   have:(cs.toList.drop (i*1))[0]? = some (.int k z):=by
    have h8:((cs.toList.drop (i*1)).take 1)[0]? = some (.int k z):=by rw[e6];rfl
    rwa [List.getElem?_take_of_lt (by omega)] at h8
   simpa using this
  rw[e5.1,e5.2]
  simpa using e7
 have hb:g<W.heap.size:=by
  have:=cell 0 (l[0]'(by omega)) (List.getElem?_eq_getElem (by omega))
  unfold World.cell? at this
  split at this
  ·rename_i hb;exact(Array.getElem?_eq_some_iff.1 hb).1
  ·cases this
 have gd:∀(l:List (IntKind×Int)) (i:Nat) x,(gD l)[i]? = some x→∃q,l[i]? = some q∧x = .int q.1 q.2:=by
  intro l
  induction l with
  | nil=>intro i x h;simp[gD] at h
  | cons a r ih=>
   intro i x h
   obtain⟨k,z⟩:=a
   cases i with
   | zero=>simp[gD] at h;exact⟨(k,z),rfl,h.symm⟩
   | succ i=>simpa using ih i x (by simpa [gD] using h)
 refine ZD7 ⟨g,0,rfl,trivial,hb,ZjQ _ _ fun j x hj=>?_⟩
 obtain⟨q,q1,rfl⟩:=gd l j x hj
 exact⟨_,by rw[Nat.zero_add];exact cell j q q1,rfl⟩
end
end Go.Proofs.YtnpidpcmpleiaaaGreatDoorE
namespace Go.Proofs.YtnpidpcmpleiaaaGreatDoorE
open Go
open Go.IntKind (u64 i64 u32 i32 u8)
noncomputable def bnd {α β:Type} (x:Option α) (k:α→Option β):Option β:=@dite _ (∃a,x=some a) (Classical.propDecidable _) (fun h=>k (Classical.choose h)) fun _=>none
theorem Zho {α β:Type} (x:Option α) (k:α→Option β):bnd x k=(match x with | some a=>k a | none=>none):=by
  unfold bnd
  cases x with
  | none=>exact dif_neg (fun⟨a,h⟩=>by cases h)
  | some a=>
    have h:∃b,some a=some b:=⟨a,rfl⟩
    rw[dif_pos h]
    have:=Classical.choose_spec h
    rw[← Option.some.inj this]
theorem ZnX {α β:Type} (a:α) (k:α→Option β):bnd (some a) k=k a:=Zho _ _
section
variable {β:Type}
def ZGQ:List Nat:=[0,1,2,3,4,5,6,7,8,9,10,11,12,13,14,15,16,17,18,19,20,21,22,23,24,25,26,27,28,29,30,31,32,33,34,35,36,37,38,39,40,41,42,43,44,45,46,47,48,49,50,51,52,53,54,55,56,57,58,59,60,61,62,63]
def fgo (n:Nat) (k:Nat→Option β):List Nat→Option β
  | []=>k n
  | a :: l=>match Nat.beq n a with | true=>k a | false=>fgo n k l
def ZfU (n:Nat) (k:Nat→Option β):Option β:=fgo n k ZGQ
def Zlx (v:V) (k:V→Option β):Option β:=
  match v with
  | .d x=>k (.d x) | .bad=>k .bad | .ptr b o=>ZfU b fun b=>ZfU o fun o=>k (.ptr b o) | .eptr b sz i j=>ZfU b fun b=>ZfU j fun j=>k (.eptr b sz i j)
  | .sl b sz=>ZfU b fun b=>k (.sl b sz) | .slp b sz o l=>ZfU b fun b=>k (.slp b sz o l) | .nilsl sz=>k (.nilsl sz)
  | .agg cs=>k (.agg cs) | .tup cs=>k (.tup cs) | .fn f cs=>k (.fn f cs) | .mp b=>ZfU b fun b=>k (.mp b)
def Zl6 (l:List V) (k:List V→Option β):Option β:=
  match l with
  | []=>k []
  | v :: vs=>Zlx v fun v=>Zl6 vs fun vs=>k (v :: vs)
def Zup (v:V) (k:V→Option β):Option β:=
  match v with
  | .d x=>k (.d x) | .bad=>k .bad | .ptr b o=>Zlx (.ptr b o) k | .eptr b sz i j=>Zlx (.eptr b sz i j) k
  | .sl b sz=>Zlx (.sl b sz) k | .slp b sz o l=>Zlx (.slp b sz o l) k | .nilsl sz=>k (.nilsl sz)
  | .agg cs=>Zl6 cs fun cs=>k (.agg cs) | .tup cs=>Zl6 cs fun cs=>k (.tup cs) | .fn f cs=>Zl6 cs fun cs=>k (.fn f cs) | .mp b=>Zlx (.mp b) k
def Zlc (l:List V) (k:List V→Option β):Option β:=
  match l with
  | []=>k []
  | v :: vs=>Zup v fun v=>Zlc vs fun vs=>k (v :: vs)
def Zwp (b:Blk) (k:Blk→Option β):Option β:=
  match b with
  | .dead=>k .dead | .cells cs=>Zlc cs fun cs=>k (.cells cs) | .arr sz xs=>k (.arr sz xs) | .mp es=>k (.mp es)
def Znn (H:Zs) (k:Zs→Option β):Option β:=
  match H with
  | []=>k []
  | b :: bs=>Zwp b fun b=>Znn bs fun bs=>k (b :: bs)
theorem ZBb (n:Nat) (k:Nat→Option β):∀(l:List Nat),fgo n k l=k n
  | []=>rfl
  | a :: l=>by
    unfold fgo
    cases h:Nat.beq n a with
    | true=>rw[Nat.eq_of_beq_eq_true h]
    | false=>exact ZBb n k l
theorem Zf8 (n:Nat) (k:Nat→Option β):ZfU n k=k n:=ZBb n k _
theorem Zr7 (v:V) (k:V→Option β):Zlx v k=k v:=by cases v<;>simp[Zlx,Zf8]
theorem Zrv:∀(l:List V) (k:List V→Option β),Zl6 l k=k l
  | [],k=>rfl
  | v :: vs,k=>by unfold Zl6;rw[Zr7,Zrv vs]
theorem Zuo (v:V) (k:V→Option β):Zup v k=k v:=by cases v<;>simp[Zup,Zr7,Zrv]
theorem ZkM:∀(l:List V) (k:List V→Option β),Zlc l k=k l
  | [],k=>rfl
  | v :: vs,k=>by unfold Zlc;rw[Zuo,ZkM vs]
theorem ZyK (b:Blk) (k:Blk→Option β):Zwp b k=k b:=by cases b<;>simp[Zwp,ZkM]
theorem Zl3:∀(l:Zs) (k:Zs→Option β),Znn l k=k l
  | [],k=>rfl
  | v :: vs,k=>by unfold Znn;rw[ZyK,Zl3 vs]
def Zmm (l:List Nat) (k:List Nat→Option β):Option β:=
  match l with
  | []=>k []
  | a :: l=>ZfU a fun a=>Zmm l fun l=>k (a :: l)
theorem Zmk:∀(l:List Nat) (k:List Nat→Option β),Zmm l k=k l
  | [],k=>rfl
  | a :: l,k=>by unfold Zmm;rw[Zf8,Zmk l]
def Zn5 (H:Zs) (l:List Nat) (bs:List Nat) (k:List Nat→Option β):Option β:=
  match bs with
  | []=>k l
  | b :: bs=>(match Zj4 l b || !(ZaY H b) with
    | true=>Zn5 H l bs k
    | false=>Zmm (l++[b]) fun l=>Zn5 H l bs k)
theorem Zml (H:Zs):∀(bs l:List Nat) (k:List Nat→Option β),Zn5 H l bs k=k (Ziw H l bs)
  | [],l,k=>rfl
  | b :: bs,l,k=>by
    unfold Zn5 Ziw
    cases h:(Zj4 l b || !(ZaY H b)) with
    | true=>exact Zml H bs l k
    | false=>simp only[Zmk,cond_false];exact Zml H bs _ k
def ZuP (H:Zs) (n i:Nat) (l:List Nat) (k:List Nat→Option β):Option β:=
  match n with
  | 0=>k l
  | n+1=>(match nth l i with
    | some b=>Zmm (ZxS H b) fun bs=>Zn5 H l bs fun l=>ZfU (i+1) fun i=>ZuP H n i l k
    | none=>k l)
theorem ZtI (H:Zs):∀(n i:Nat) (l:List Nat) (k:List Nat→Option β),ZuP H n i l k=k (ZnQ H n i l)
  | 0,i,l,k=>rfl
  | n+1,i,l,k=>by
    unfold ZuP ZnQ
    cases h:nth l i with
    | none=>rfl
    | some b=>simp only[Zmk,Zf8,Zml];exact ZtI H n (i+1) _ k
def ZiM (m:Nat) (vs:List V) (H:Zs) (k:List Nat→List V→Zs→Option β):Option β:=
  Zlc vs fun vs=>Zmm (ZpE m) fun u=>Zmm (Zks vs) fun r=>Zn5 H u r fun l=>ZuP H (H.length+1) 0 l fun L=>
    (match Zpz L&&Ztk H.length L with
    | true=>Zlc (Zky (fun b=>idx L b 0) vs) fun vs=>Znn (pick H (fun b=>idx L b 0) L) fun H=>k L vs H
    | false=>none)
theorem Zfg (m:Nat) (vs:List V) (H:Zs) (k:List Nat→List V→Zs→Option β):ZiM m vs H k=(match extract m vs H with | some (L,vs,H)=>k L vs H | none=>none):=by
  unfold ZiM extract ZpV
  simp only[ZkM,Zmk,Zml,ZtI,Zl3]
  cases (Zpz (ZnQ H (H.length+1) 0 (Ziw H (ZpE m) (Zks vs)))&&Ztk H.length (ZnQ H (H.length+1) 0 (Ziw H (ZpE m) (Zks vs))))<;>rfl
def Zo6 (n:Nat) (vs:List V) (k:List V→List Blk→Option β):Option β:=
  match vs with
  | []=>k [] []
  | v :: vs=>(match v with
    | .nilsl sz=>(match Nat.blt 0 sz with
      | true=>ZfU (n+1) fun n1=>Zo6 n1 vs fun vs bs=>k (.sl n sz :: vs) (.arr sz [] :: bs)
      | false=>Zo6 n vs fun vs bs=>k (.nilsl sz :: vs) bs)
    | v=>Zo6 n vs fun vs bs=>k (v :: vs) bs)
theorem ZlI:∀(vs:List V) (n:Nat) (k:List V→List Blk→Option β),Zo6 n vs k=k (Zdb n vs).1 (Zdb n vs).2
  | [],n,k=>rfl
  | v :: vs,n,k=>by
    unfold Zo6
    split
    · rename_i sz
      simp only[Zdb]
      cases h:Nat.blt 0 sz with
      | true=>simp only[Zf8,cond_true];exact ZlI vs (n+1) _
      | false=>exact ZlI vs n _
    · rename_i h
      rw[ZlI vs n]
      cases v<;>first | rfl | exact absurd rfl (h _)
def Zqn (n:Nat) (H:Zs) (k:Zs→List Blk→Option β):Option β:=
  match H with
  | []=>k [] []
  | b :: H=>(match b with
    | .cells cs=>Zo6 n cs fun cs bs=>ZfU (n+bs.length) fun n1=>Zqn n1 H fun H q=>k (.cells cs :: H) (bs++q)
    | b=>Zqn n H fun H q=>k (b :: H) q)
theorem Zpe:∀(H:Zs) (n:Nat) (k:Zs→List Blk→Option β),Zqn n H k=k (Zd0 n H).1 (Zd0 n H).2
  | [],n,k=>rfl
  | b :: H,n,k=>by
    unfold Zqn
    cases b<;>first | exact Zpe H n _ | skip
    rename_i cs
    simp only[ZlI,Zf8,Zd0]
    exact Zpe H _ _
def Zst (m:Nat) (vs:List V) (H:Zs) (k:List V→Zs→Option β):Option β:=
  ZiM m vs H fun _ vs1 H1=>Zo6 H1.length vs1 fun vs2 bs=>ZfU (H1.length+bs.length) fun n=>Zqn n H1 fun H2 q=>Znn (H2++(bs++q)) fun H2=>ZiM m vs2 H2 fun _ vs3 H3=>k vs3 H3
theorem ZvO (m:Nat) (vs:List V) (H:Zs) (k:List V→Zs→Option β):Zst m vs H k=(match Zrz m vs H with | some (vs,H)=>k vs H | none=>none):=by
  unfold Zst Zrz
  rw[Zfg]
  cases h:extract m vs H with
  | none=>rfl
  | some p=>
    obtain⟨L,vs1,H1⟩:=p
    simp only[ZlI,Zf8,Zpe,Zl3,Zfg]
    cases extract m (Zdb H1.length vs1).1 ((Zd0 (H1.length+(Zdb H1.length vs1).2.length) H1).1++((Zdb H1.length vs1).2++(Zd0 (H1.length+(Zdb H1.length vs1).2.length) H1).2))<;>rfl
noncomputable def br (c:Bool) (x y:Option β):Option β:=@ite _ (c=true) (Classical.propDecidable _) x y
theorem Zgi (c:Bool) (x y:Option β):br c x y=bif c then x else y:=by
  unfold br
  cases c with
  | true=>exact if_pos rfl
  | false=>exact if_neg (by simp)
def brL (c:Bool) (x y:Option β):Option β:=match c with | true=>x | false=>y
noncomputable def ZnH (c:Bool) (k:V→Option β):Option β:=br c (k (.d (.bool true))) (k (.d (.bool false)))
theorem ZlQ (c:Bool) (k:V→Option β):ZnH c k=k (.d (.bool c)):=by
  unfold ZnH
  rw[Zgi]
  cases c<;>rfl
noncomputable def ZtJ (v:V) (k:V→Option β):Option β:=match v with | .d (.bool c)=>ZnH c k | v=>k v
theorem ZvZ (v:V) (k:V→Option β):ZtJ v k=k v:=by
  unfold ZtJ
  split
  · exact ZlQ _ _
  · rfl
noncomputable def ZBD (x:D) (k:V→Option β):Option β:=match x with | .bool c=>ZnH c k | .tup ts=>k (.tup (Zd1 ts)) | x=>k (.d x)
abbrev K3 (β:Type):=V→List (Nat×Blk)→List Blk→Option β
noncomputable def ZCw (op:BinOp) (x y:V) (k:V→Option β):Option β:=
  match op,x,y with
  | .quo,.d (.int i a),.d (.int j b)=>(match i==j with | true=>br (b==0) none (k (.d (.int i (i.wrap (a.tdiv b))))) | false=>none)
  | .rem,.d (.int i a),.d (.int j b)=>(match i==j with | true=>br (b==0) none (k (.d (.int i (a.tmod b)))) | false=>none)
  | .shl,.d (.int i a),.d (.int _ b)=>br (decide (b<0)) none (k (.d (.int i (i.wrap (a*2 ^ (min b.toNat i.bits))))))
  | .shr,.d (.int i a),.d (.int _ b)=>br (decide (b<0)) none (k (.d (.int i (a.fdiv (2 ^ (min b.toNat i.bits))))))
  | op,x,y=>match Zq5 op x y with | some (.bool c)=>ZnH c k | some r=>k (.d r) | none=>none
noncomputable def Zxv (H:Zs) (n:Nat) (ag:Bool) (x:V) (k:V→Option β):Option β:=
  match x with
  | .eptr b sz i j=>(match nth H b with
    | some (.arr sz' xs)=>(match Nat.beq sz sz' with
      | true=>bnd (nth xs i) fun x=>(match Zg2 n ag (Zd1 (x.cells.drop j)) with | some v=>ZtJ v k | none=>none)
      | false=>none)
    | _=>none)
  | x=>match Ze7 H n ag x with | some v=>ZtJ v k | none=>none
noncomputable def Zu4 (H:Zs) (n:Nat) (x v:V) (k:K3 β):Option β:=
  match x with
  | .eptr b sz i j=>(match nth H b with
    | some (.arr sz' xs)=>(match Nat.beq sz sz' with
      | true=>bnd (nth xs i) fun x=>(match fr H 6 v with
        | some (y,ks)=>(match Zj4 ks b with
          | true=>none
          | false=>(match Nat.beq y.cells.length n&&Nat.ble (j+n) x.cells.length&&(V.d y).okb&&(x.isAgg || !y.isAgg) with
            | true=>bnd (some (Zhv xs i (bif x.isAgg then .agg (Zbf x.cells j y.cells) else y))) fun zs=>k .bad ((b,.arr sz zs) :: ks.map (fun j=>(j,.dead))) []
            | false=>none))
        | none=>none)
      | false=>none)
    | _=>none)
  | x=>match ZmB H n x v with | some (a,b,c)=>k a b c | none=>none
noncomputable def Zuv (nid:Nat) (H:Zs) (sz:Nat) (x y:V) (k:K3 β):Option β:=
  match elems H y with
  | none=>none
  | some ys=>
    br (Znl sz ys 0) (match x with
    | .nilsl _=>br (Nat.ble ys.length lim) (bnd (some ys) fun zs=>k (.sl nid sz) [] [.arr sz zs]) none
    | .sl b sz'=>(match nth H b with
      | some (.arr sz'' xs)=>(match Nat.beq sz sz'&&Nat.beq sz sz'' with
        | true=>br (Nat.ble (xs.length+ys.length) lim) (bnd (some (xs++ys)) fun zs=>k (.sl nid sz) [(b,.dead)] [.arr sz zs]) none
        | false=>none)
      | _=>none)
    | .slp b sz' o len=>(match nth H b with
      | some (.arr sz'' xs)=>(match Nat.beq sz sz'&&Nat.beq sz sz'' with
        | true=>br (Nat.ble (o+len+ys.length) xs.length) (bnd (some (xs.take (o+len)++(ys++xs.drop (o+len+ys.length)))) fun zs=>bnd (some (len+ys.length)) fun n=>k (.slp b sz o n) [(b,.arr sz zs)] []) none
        | false=>none)
      | _=>none)
    | _=>none) none
noncomputable def ZpW (H:Zs) (sz:Nat) (x y:V) (k:V→Option β):Option β:=
  match x with
  | .nilsl _=>(match elems H y with
    | some ys=>br (Znl sz ys 0) (br (Nat.ble ys.length lim) (bnd (some ys) fun zs=>k (.d (.list true zs))) none) none
    | none=>none)
  | _=>none
noncomputable def ZsH (v:Option V) (dflt:Nat) (k:Nat→Option β):Option β:=
  match v with
  | none=>k dflt
  | some (.d (.int _ n))=>br (decide (0≤n)) (k n.toNat) none
  | _=>none
noncomputable def ZuD (H:Zs) (sz:Nat) (x:V) (lo hi mx:Option V) (k:V→Option β):Option β:=
  match elems H x with
  | none=>none
  | some xs=>
    ZsH lo 0 fun l=>ZsH hi xs.length fun h=>
      br (Nat.ble l h&&Nat.ble h xs.length)
        (match mx with
        | none=>(match x with
          | .d (.list own _)=>br (Nat.beq l 0 || Znl sz xs l) (bnd (some ((xs.drop l).take (h-l))) fun zs=>k (.d (.list own zs))) none
          | .sl b sz'=>(match Nat.beq sz sz' with | true=>bnd (some l) fun l'=>bnd (some (h-l)) fun n=>k (.slp b sz l' n) | false=>none)
          | .slp b sz' o _=>(match Nat.beq sz sz' with | true=>bnd (some (o+l)) fun l'=>bnd (some (h-l)) fun n=>k (.slp b sz l' n) | false=>none)
          | .nilsl _=>k (.nilsl sz)
          | _=>none)
        | some m=>ZsH (some m) 0 fun m=>br (Nat.beq m l&&Nat.beq m h) (k (.nilsl sz)) none)
        none
noncomputable def ZuH (H:Zs) (sz:Nat) (x i:V) (k:V→Option β):Option β:=
  match i with
  | .d (.int _ i)=>(match x with
    | .d (.list _ xs)=>bnd (Zx xs i) fun x=>(match Nat.beq x.cells.length sz&&(V.d x).okb with | true=>k (.d (.rptr x.cells)) | false=>none)
    | .sl b sz'=>(match nth H b with
      | some (.arr sz'' xs)=>(match Nat.beq sz sz'&&Nat.beq sz sz'' with | true=>bnd (Zx xs i) fun _=>k (.eptr b sz i.toNat 0) | false=>none)
      | _=>none)
    | .slp b sz' o len=>(match nth H b with
      | some (.arr sz'' xs)=>(match Nat.beq sz sz'&&Nat.beq sz sz'' with | true=>bnd (Zx ((xs.drop o).take len) i) fun _=>k (.eptr b sz (o+i.toNat) 0) | false=>none)
      | _=>none)
    | _=>none)
  | _=>none
noncomputable def Zut (len sz:Nat) (ag:Bool) (x i:V) (k:V→Option β):Option β:=
  match i with
  | .d (.int _ i)=>br (x.isAggV&&(decide (0≤i)&&decide (i<len))) (bnd (Zg2 sz ag (x.cells.drop (i.toNat*sz))) k) none
  | _=>none
noncomputable def ZrG (H:Zs) (len sz:Nat) (x i:V) (k:V→Option β):Option β:=
  match i with
  | .d (.int _ i)=>br (decide (0≤i)&&decide (i<len)) (match Zmz H (i.toNat*sz) x with | some v=>k v | none=>none) none
  | _=>none
noncomputable def ZrQ (x i:V) (k:V→Option β):Option β:=
  match x,i with
  | .d (.str s),.d (.int _ i)=>br (decide (0≤i)) (bnd s[i.toNat]? fun b=>k (.d (.int .u8 b.toNat))) none
  | _,_=>none
noncomputable def Ztm (k:V→Option β) (r:V×Zs):Option β:=match fr r.2 6 r.1 with | some (x,_)=>ZBD x k | none=>none
noncomputable def Zrg (Γ:Ctx) (cf:Zcl) (nid:Nat) (H:Zs) (f:Nat) (args:List V) (k:K3 β):Option β:=
  match Γ.mode f with
  | 0=>(match fzs H args with
    | some l=>Zlc (Zd1 l) fun l=>bnd (cf f l []) (Ztm fun v=>k v [] [])
    | none=>none)
  | 1=>(match fzs H args with
    | some l=>Zlc (Zd1 l) fun l=>bnd (cf f l []) fun r=>(match Ztn r.1&&ZoO r.2 with | true=>k (ZpT (fun j=>some (nid+j)) r.1) [] (r.2.map (Zka (fun j=>some (nid+j)))) | false=>none)
    | none=>none)
  | _ => (ZiM 0 args H fun L args' H0 => bnd (cf f args' H0) fun r => (match ZoH r.1 && ZlF r.2 with
        | true=>k (ZpT (fun j=>match nth L j with | some b=>some b | none=>some (nid+(j-L.length))) r.1)
          (L.zip (r.2.map (Zka (fun j=>match nth L j with | some b=>some b | none=>some (nid+(j-L.length))))))
          ((r.2.drop L.length).map (Zka (fun j=>match nth L j with | some b=>some b | none=>some (nid+(j-L.length)))))
        | false=>none))
noncomputable def Zu8 (H:Zs) (ks:List Bool) (m k v:V) (kk:K3 β):Option β:=
  match m,k,v with
  | .mp b,.d k,.d y=>(match nth H b with
    | some (.mp es)=>(match Zfe ks k&&Zj3 y with | true=>bnd (ZlA es k y) fun l=>kk .bad [(b,.mp l)] [] | false=>none)
    | _=>none)
  | _,_,_=>none
noncomputable def Zu5 (H:Zs) (ks:List Bool) (z:D) (m k:V) (kk:K3 β):Option β:=
  match m,k with
  | .mp b,.d k=>(match nth H b with
    | some (.mp es)=>(match Zfe ks k with | true=>bnd (ZBc es k z) fun y=>kk (.d y) [] [] | false=>none)
    | _=>none)
  | _,_=>none
noncomputable def opK (Γ:Ctx) (cf:Zcl) (e:Env) (nid:Nat) (H:Zs) (o:O) (k:K3 β):Option β:=
  match o with
  | .mov x=>k (x.val e) [] []
  | .pick c a b=>(match c.val e with | .d (.bool t)=>brL t (k (a.val e) [] []) (k (b.val e) [] []) | _=>none)
  | .load n ag x=>Zxv H n ag (x.val e) fun v=>k v [] []
  | .store n x v=>Zu4 H n (x.val e) (v.val e) k
  | .storek n x v _=>Zu4 H n (x.val e) (v.val e) k
  | .bin op x y=>ZCw op (x.val e) (y.val e) fun v=>k v [] []
  | .slice sz x lo hi mx=>ZuD H sz (x.val e) (lo.map (·.val e)) (hi.map (·.val e)) (mx.map (·.val e)) fun v=>k v [] []
  | .iaddr sz x i=>ZuH H sz (x.val e) (i.val e) fun v=>k v [] []
  | .index len sz ag x i=>Zut len sz ag (x.val e) (i.val e) fun v=>k v [] []
  | .iaddrA len sz x i=>ZrG H len sz (x.val e) (i.val e) fun v=>k v [] []
  | .indexS x i=>ZrQ (x.val e) (i.val e) fun v=>k v [] []
  | .append sz x y=>Zuv nid H sz (x.val e) (y.val e) k
  | .appendD sz x y=>ZpW H sz (x.val e) (y.val e) fun v=>k v [] []
  | .eqv ks neg x y=>(match x.val e,y.val e with
    | .d a,.d b=>(match Zfe ks a with | true=>(match eqD a b with | some r=>ZnH (bif neg then !r else r) fun v=>k v [] [] | none=>none) | false=>none)
    | _,_=>none)
  | .un .not x=>(match x.val e with | .d (.bool b)=>brL b (k (.d (.bool false)) [] []) (k (.d (.bool true)) [] []) | _=>none)
  | .extract x i=>(match x.val e with
    | .tup vs=>(match nth vs i with | some (.d (.bool c))=>ZnH c fun v=>k v [] [] | some v=>k v [] [] | none=>none)
    | .d (.tup vs)=>(match nth vs i with | some (.bool c)=>ZnH c fun v=>k v [] [] | some v=>k (.d v) [] [] | none=>none)
    | _=>none)
  | .mkslice sz z n c=>(match n.val e,c.val e with
    | .d (.int _ n),.d (.int _ c)=>br (decide (0≤n)&&decide (n≤lim)&&decide (n==c))
        (bnd (some (List.replicate n.toNat (match z with | [x]=>x | z=>.agg z))) fun zs=>k (.sl nid sz) [] [.arr sz zs]) none
    | _,_=>none)
  | .len x=>(match elems H (x.val e) with | some xs=>bnd (some (xs.length:Int)) fun n=>k (.d (.int .i64 n)) [] [] | none=>none)
  | .call f args=>Zrg Γ cf nid H f (Zhl e args) k
  | .callv x args=>(match ZmN (x.val e) with | some (f,caps)=>(match ZiZ Γ (x.val e) f caps with | true=>none | false=>Zrg Γ cf nid H (ZoI f) (Zrl f caps (Zhl e args)) k) | none=>none)
  | .invoke tab x args=>(match x.val e with
    | .d (.iface t y)=>(match ZoR tab t with | some f=>Zrg Γ cf nid H f (.d y :: Zhl e args) k | none=>none)
    | _=>none)
  | .callk f args _=>Zrg Γ cf nid H f (Zhl e args) k
  | .spec id args=>(match H,ZnC (Zhl e args) with | [],some l=>bnd (ZoP id l) fun r=>k (.d r) [] [] | _,_=>none)
  | .nilq x=>(match elems H (x.val e) with | some xs=>br (Nat.blt 0 xs.length) (k (.d (.bool false)) [] []) none | none=>none)
  | .mapset ks m x v=>Zu8 H ks (m.val e) (x.val e) (v.val e) k
  | .mapget ks z m x=>Zu5 H ks z (m.val e) (x.val e) k
  | o=>match opE Γ cf e nid H o with | some (v,up,nw)=>ZtJ v fun v=>k v up nw | none=>none
def on3 (x:Res) (k:K3 β):Option β:=match x with | some (v,up,nw)=>k v up nw | none=>none
theorem Zqd (Γ:Ctx) (cf:Zcl) (nid:Nat) (H:Zs) (f:Nat) (args:List V) (k:K3 β):Zrg Γ cf nid H f args k=on3 (ZiW Γ cf nid H f args) k:=by
  unfold Zrg ZiW
  generalize Γ.mode f=m
  match m with
  | 0=>
    dsimp only
    simp only[Zho]
    cases h1:fzs H args with
    | none=>rfl
    | some l=>
      simp only[ZkM]
      cases h2:cf f (Zd1 l) [] with
      | none=>rfl
      | some r=>
        obtain⟨v,H1⟩:=r
        dsimp only[Ztm]
        cases h3:fr H1 6 v with
        | none=>rfl
        | some q => obtain ⟨x, ks⟩ := q; cases x <;> try rfl
                    exact ZlQ _ (fun v=>k v [] [])
  | 1=>
    dsimp only
    simp only[Zho]
    cases h1:fzs H args with
    | none=>rfl
    | some l=>
      simp only[ZkM]
      cases h2:cf f (Zd1 l) [] with
      | none=>rfl
      | some r=>
        dsimp only
        cases h3:(Ztn r.1&&ZoO r.2)<;>rfl
  | m+2=>
    dsimp only
    simp only[Zho]
    rw[Zfg]
    cases h1:extract 0 args H with
    | none=>rfl
    | some q=>
      obtain⟨L,args',H0⟩:=q
      dsimp only
      cases h2:cf f args' H0 with
      | none=>rfl
      | some r=>
        dsimp only
        cases h3:(ZoH r.1&&ZlF r.2)<;>rfl
theorem ZCd (op:BinOp) (x y:V) (k:V→Option β):ZCw op x y k=(match Zq5 op x y with | some r=>k (.d r) | none=>none):=by
  unfold ZCw
  split
  · rename_i i a j b
    simp only[Zq5,ZCI]
    cases h:(i==j)<;>simp only[cond_true,cond_false,Zgi]
    cases h2:(b==0)<;>rfl
  · rename_i i a j b
    simp only[Zq5,ZCI]
    cases h:(i==j)<;>simp only[cond_true,cond_false,Zgi]
    cases h2:(b==0)<;>rfl
  · rename_i i a j b
    simp only[Zq5,shI,Zgi]
    cases h:decide (b<0)<;>rfl
  · rename_i i a j b
    simp only[Zq5,shI,Zgi]
    cases h:decide (b<0)<;>rfl
  · cases h:Zq5 op x y with
    | none=>rfl
    | some r => cases r <;> try rfl
                exact ZlQ _ _
theorem ZAh (H:Zs) (n:Nat) (ag:Bool) (x:V) (k:V→Option β):Zxv H n ag x k=(match Ze7 H n ag x with | some v=>k v | none=>none):=by
  unfold Zxv
  simp only[Zho]
  simp only[ZvZ]
  split
  · rename_i b sz i j
    simp only[Ze7]
    cases h:nth H b with
    | none=>rfl
    | some blk=>
      cases blk<;>try rfl
      rename_i sz' xs
      dsimp only
      cases h2:Nat.beq sz sz'<;>simp only[cond_true,cond_false]
      cases h3:nth xs i<;>rfl
  · rfl
theorem ZtH (H:Zs) (n:Nat) (x v:V) (k:K3 β):Zu4 H n x v k=on3 (ZmB H n x v) k:=by
  unfold Zu4
  simp only[Zho]
  split
  · rename_i b sz i j
    simp only[ZmB]
    cases h:nth H b with
    | none=>rfl
    | some blk=>
      cases blk<;>try rfl
      rename_i sz' xs
      dsimp only
      cases h2:Nat.beq sz sz'<;>simp only[cond_true,cond_false]<;>try rfl
      cases h3:nth xs i with
      | none=>rfl
      | some x=>
        cases h4:fr H 6 v with
        | none=>rfl
        | some q=>
          obtain⟨y,ks⟩:=q
          dsimp only
          cases h5:Zj4 ks b<;>simp only[cond_true,cond_false]<;>try rfl
          cases h6:(Nat.beq y.cells.length n&&Nat.ble (j+n) x.cells.length&&(V.d y).okb&&(x.isAgg || !y.isAgg))<;>rfl
  · rfl
theorem Zwi (nid:Nat) (H:Zs) (sz:Nat) (x y:V) (k:K3 β):Zuv nid H sz x y k=on3 (Zn3 nid H sz x y) k:=by
  unfold Zuv Zn3
  cases h:elems H y with
  | none=>rfl
  | some ys=>
    simp only[Zgi,ZnX]
    cases h0:Znl sz ys 0<;>simp only[cond_true,cond_false]<;>try rfl
    cases x<;>try rfl
    · rename_i b sz'
      dsimp only
      cases h1:nth H b with
      | none=>rfl
      | some blk=>
        cases blk<;>try rfl
        rename_i sz'' xs
        dsimp only
        cases h2:(Nat.beq sz sz'&&Nat.beq sz sz'')<;>simp only[cond_true,cond_false]<;>try rfl
        cases h3:Nat.ble (xs.length+ys.length) lim<;>rfl
    · rename_i b sz' o len
      dsimp only
      cases h1:nth H b with
      | none=>rfl
      | some blk=>
        cases blk<;>try rfl
        rename_i sz'' xs
        dsimp only
        cases h2:(Nat.beq sz sz'&&Nat.beq sz sz'')
        · simp only[Bool.false_and,cond_false];rfl
        · simp only[Bool.true_and,Zgi]
          cases h3:Nat.ble (o+len+ys.length) xs.length<;>rfl
    · dsimp only
      cases h3:Nat.ble ys.length lim<;>rfl
theorem Zwe (H:Zs) (sz:Nat) (x y:V) (k:V→Option β):ZpW H sz x y k=(match Zk4 H sz x y with | some v=>k v | none=>none):=by
  unfold ZpW Zk4
  cases x<;>try rfl
  dsimp only
  cases h:elems H y with
  | none=>rfl
  | some ys=>
    simp only[Zgi,ZnX]
    cases h0:Znl sz ys 0<;>cases h1:Nat.ble ys.length lim<;>rfl
theorem ZyV (v:Option V) (d:Nat) (k:Nat→Option β):ZsH v d k=(match ZjY v d with | some n=>k n | none=>none):=by
  unfold ZsH ZjY
  cases v with
  | none=>rfl
  | some v=>
    cases v<;>try rfl
    rename_i x
    cases x<;>try rfl
    rename_i i n
    dsimp only
    rw[Zgi]
    cases h:decide (0≤n)<;>rfl
theorem ZyB (H:Zs) (sz:Nat) (x:V) (lo hi mx:Option V) (k:V→Option β):ZuD H sz x lo hi mx k=(match Zk1 H sz x lo hi mx with | some v=>k v | none=>none):=by
  unfold ZuD Zk1
  cases h:elems H x with
  | none=>rfl
  | some xs=>
    simp only[ZyV]
    cases h1:ZjY lo 0 with
    | none=>rfl
    | some l=>
      cases h2:ZjY hi xs.length with
      | none=>rfl
      | some hh=>
        simp only[Zgi,ZnX]
        cases h3:(Nat.ble l hh&&Nat.ble hh xs.length)<;>simp only[cond_true,cond_false]
        cases mx with
        | none=>
          cases x<;>try rfl
          · rename_i x
            cases x<;>try rfl
            dsimp only
            cases h4:(Nat.beq l 0 || Znl sz xs l)<;>rfl
          · rename_i b sz'
            dsimp only
            cases h4:Nat.beq sz sz'<;>rfl
          · rename_i b sz' o len
            dsimp only
            cases h4:Nat.beq sz sz'<;>rfl
        | some m=>
          dsimp only
          cases h4:ZjY (some m) 0 with
          | none=>rfl
          | some m=>
            dsimp only
            cases h5:(Nat.beq m l&&Nat.beq m hh)<;>rfl
theorem ZyY (H:Zs) (sz:Nat) (x i:V) (k:V→Option β):ZuH H sz x i k=(match Zkr H sz x i with | some v=>k v | none=>none):=by
  unfold ZuH Zkr
  simp only[Zho]
  cases i<;>try rfl
  rename_i i
  cases i<;>try rfl
  rename_i ki i
  cases x<;>try rfl
  · rename_i x
    cases x<;>try rfl
    rename_i own xs
    dsimp only
    cases h:Zx xs i with
    | none=>rfl
    | some x=>
      dsimp only
      cases h2:(Nat.beq x.cells.length sz&&(V.d x).okb)<;>rfl
  · rename_i b sz'
    dsimp only
    cases h1:nth H b with
    | none=>rfl
    | some blk=>
      cases blk<;>try rfl
      rename_i sz'' xs
      dsimp only
      cases h2:(Nat.beq sz sz'&&Nat.beq sz sz'')<;>simp only[cond_true,cond_false]
      cases h:Zx xs i<;>rfl
  · rename_i b sz' o len
    dsimp only
    cases h1:nth H b with
    | none=>rfl
    | some blk=>
      cases blk<;>try rfl
      rename_i sz'' xs
      dsimp only
      cases h2:(Nat.beq sz sz'&&Nat.beq sz sz'')<;>simp only[cond_true,cond_false]
      cases h:Zx ((xs.drop o).take len) i<;>rfl
theorem Zyw (len sz:Nat) (ag:Bool) (x i:V) (k:V→Option β):Zut len sz ag x i k=(match Zpy len sz ag x i with | some v=>k v | none=>none):=by
  unfold Zut Zpy
  cases i<;>try rfl
  rename_i i
  cases i<;>try rfl
  rename_i ki i
  dsimp only
  rw[Zgi,Zho]
  cases (x.isAggV&&(decide (0≤i)&&decide (i<(len:Int)))) with
  | false=>rfl
  | true=>simp only[cond_true];cases Zg2 sz ag (List.drop (i.toNat*sz) x.cells)<;>rfl
theorem Zws (H:Zs) (len sz:Nat) (x i:V) (k:V→Option β):ZrG H len sz x i k=(match ZiJ H len sz x i with | some v=>k v | none=>none):=by
  unfold ZrG ZiJ
  cases i<;>try rfl
  rename_i i
  cases i<;>try rfl
  rename_i ki i
  dsimp only
  rw[Zgi]
  cases (decide (0≤i)&&decide (i<(len:Int)))<;>rfl
theorem Zwl (x i:V) (k:V→Option β):ZrQ x i k=(match ZmC x i with | some v=>k v | none=>none):=by
  unfold ZrQ ZmC
  cases x<;>try rfl
  rename_i x
  cases x<;>try rfl
  rename_i s
  cases i<;>try rfl
  rename_i i
  cases i<;>try rfl
  rename_i ki i
  dsimp only
  rw[Zgi,Zho]
  cases decide (0≤i) with
  | false=>rfl
  | true=>simp only[cond_true];cases s[i.toNat]?<;>rfl
theorem ZxD (x:Res) (k:K3 β):(match x with | some (v,up,nw)=>ZtJ v fun v=>k v up nw | none=>none)=on3 x k:=by
  cases x with
  | none=>rfl
  | some q=>exact ZvZ _ _
theorem ZwV (H:Zs) (ks:List Bool) (m x v:V) (k:K3 β):Zu8 H ks m x v k=on3 (ZpD H ks m x v) k:=by
  unfold Zu8 ZpD
  cases m<;>try rfl
  cases x<;>try rfl
  cases v<;>try rfl
  rename_i b x y
  dsimp only
  cases hb:nth H b with
  | none=>rfl
  | some blk=>
    cases blk<;>try rfl
    rename_i es
    dsimp only
    cases hk:(Zfe ks x&&Zj3 y) with
    | false=>rfl
    | true=>
      dsimp only
      rw[Zho]
      cases hs:ZlA es x y<;>rfl
theorem Zxf (H:Zs) (ks:List Bool) (z:D) (m x:V) (k:K3 β):Zu5 H ks z m x k=on3 (match Zob H ks z m x with | some r=>ZeH (.d r) | none=>none) k:=by
  unfold Zu5 Zob
  cases m<;>try rfl
  cases x<;>try rfl
  rename_i b x
  dsimp only
  cases hb:nth H b with
  | none=>rfl
  | some blk=>
    cases blk<;>try rfl
    rename_i es
    dsimp only
    cases hk:Zfe ks x with
    | false=>rfl
    | true=>
      dsimp only
      rw[Zho]
      cases hs:ZBc es x z<;>rfl
theorem ZuK (Γ:Ctx) (cf:Zcl) (e:Env) (nid:Nat) (H:Zs) (o:O) (k:K3 β):opK Γ cf e nid H o k=on3 (opE Γ cf e nid H o) k:=by
  cases o<;>try (first | rfl | exact ZxD _ _)
  · rename_i c a b
    show(match c.val e with | .d (.bool t)=>brL t (k (a.val e) [] []) (k (b.val e) [] []) | _=>none)=on3 (match c.val e with | .d (.bool t)=>ZeH (bif t then a.val e else b.val e) | _=>none) k
    cases c.val e<;>try rfl
    rename_i x
    cases x<;>try rfl
    rename_i t
    cases t<;>rfl
  · rename_i n ag x
    show Zxv H n ag (x.val e) (fun v=>k v [] [])=on3 (match Ze7 H n ag (x.val e) with | some v=>ZeH v | none=>none) k
    rw[ZAh]
    cases h:Ze7 H n ag (x.val e)<;>rfl
  · exact ZtH _ _ _ _ _
  · rename_i op x y
    show ZCw op (x.val e) (y.val e) (fun v=>k v [] [])=on3 (match Zq5 op (x.val e) (y.val e) with | some r=>ZeH (.d r) | none=>none) k
    rw[ZCd]
    cases h:Zq5 op (x.val e) (y.val e)<;>rfl
  · rename_i ks neg x y
    show(match x.val e,y.val e with
      | .d a,.d b=>(match Zfe ks a with | true=>(match eqD a b with | some r=>ZnH (bif neg then !r else r) (fun v=>k v [] []) | none=>none) | false=>none)
      | _,_=>none)=on3 (match x.val e,y.val e with
      | .d a,.d b=>(match Zfe ks a with | true=>(match eqD a b with | some r=>ZeH (.d (.bool (bif neg then !r else r))) | none=>none) | false=>none)
      | _,_=>none) k
    cases x.val e<;>try rfl
    rename_i a
    cases y.val e<;>try rfl
    rename_i b
    dsimp only
    cases hn:Zfe ks a<;>try rfl
    dsimp only
    cases h:eqD a b with
    | none=>rfl
    | some r=>exact ZlQ _ _
  · rename_i op x
    cases op<;>try (first | rfl | exact ZxD _ _)
    show(match x.val e with | .d (.bool b)=>brL b (k (.d (.bool false)) [] []) (k (.d (.bool true)) [] []) | _=>none)=on3 (match unE .not (x.val e) with | some r=>ZeH (.d r) | none=>none) k
    cases x.val e<;>try rfl
    rename_i a
    cases a<;>try rfl
    rename_i b
    cases b<;>rfl
  · rename_i f caps
    cases caps<;>rfl
  · rename_i sz z n c
    show(match n.val e,c.val e with
      | .d (.int _ n),.d (.int _ c)=>br (decide (0≤n)&&decide (n≤lim)&&decide (n==c)) (bnd (some (List.replicate n.toNat (match z with | [x]=>x | z=>.agg z))) fun zs=>k (.sl nid sz) [] [.arr sz zs]) none
      | _,_=>none)=on3 (match n.val e,c.val e with
      | .d (.int _ n),.d (.int _ c)=>bif decide (0≤n)&&decide (n≤lim)&&decide (n==c) then some (.sl nid sz,[],[.arr sz (List.replicate n.toNat (match z with | [x]=>x | z=>.agg z))]) else none
      | _,_=>none) k
    cases n.val e<;>try rfl
    rename_i x
    cases x<;>try rfl
    rename_i i n1
    cases c.val e<;>try rfl
    rename_i x
    cases x<;>try rfl
    rename_i j c1
    dsimp only
    simp only[Zgi,ZnX]
    cases h3:(decide (0≤n1)&&decide (n1≤lim)&&decide (n1==c1))<;>rfl
  · rename_i sz x lo hi mx
    show ZuD H sz (x.val e) (lo.map (·.val e)) (hi.map (·.val e)) (mx.map (·.val e)) (fun v=>k v [] [])=on3 (match Zk1 H sz (x.val e) (lo.map (·.val e)) (hi.map (·.val e)) (mx.map (·.val e)) with | some v=>ZeH v | none=>none) k
    rw[ZyB]
    cases h:Zk1 H sz (x.val e) (lo.map (·.val e)) (hi.map (·.val e)) (mx.map (·.val e))<;>rfl
  · rename_i sz x i
    show ZuH H sz (x.val e) (i.val e) (fun v=>k v [] [])=on3 (match Zkr H sz (x.val e) (i.val e) with | some v=>ZeH v | none=>none) k
    rw[ZyY]
    cases h:Zkr H sz (x.val e) (i.val e)<;>rfl
  · rename_i len sz ag x i
    show Zut len sz ag (x.val e) (i.val e) (fun v=>k v [] [])=on3 (match Zpy len sz ag (x.val e) (i.val e) with | some v=>ZeH v | none=>none) k
    rw[Zyw]
    cases h:Zpy len sz ag (x.val e) (i.val e)<;>rfl
  · rename_i x i
    show ZrQ (x.val e) (i.val e) (fun v=>k v [] [])=on3 (match ZmC (x.val e) (i.val e) with | some v=>ZeH v | none=>none) k
    rw[Zwl]
    cases h:ZmC (x.val e) (i.val e)<;>rfl
  · rename_i len sz x i
    show ZrG H len sz (x.val e) (i.val e) (fun v=>k v [] [])=on3 (match ZiJ H len sz (x.val e) (i.val e) with | some v=>ZeH v | none=>none) k
    rw[Zws]
    cases h:ZiJ H len sz (x.val e) (i.val e)<;>rfl
  · rename_i x
    show(match elems H (x.val e) with | some xs=>bnd (some (xs.length:Int)) fun n=>k (.d (.int .i64 n)) [] [] | none=>none)=on3 (match ZuO H (x.val e) with | some r=>ZeH (.d r) | none=>none) k
    unfold ZuO
    cases elems H (x.val e) with
    | none=>rfl
    | some xs=>exact ZnX _ _
  · exact Zwi _ _ _ _ _ _
  · rename_i sz x y
    show ZpW H sz (x.val e) (y.val e) (fun v=>k v [] [])=on3 (match Zk4 H sz (x.val e) (y.val e) with | some v=>ZeH v | none=>none) k
    rw[Zwe]
    cases h:Zk4 H sz (x.val e) (y.val e)<;>rfl
  · rename_i x i
    show(match x.val e with
      | .tup vs=>(match nth vs i with | some (.d (.bool c))=>ZnH c (fun v=>k v [] []) | some v=>k v [] [] | none=>none)
      | .d (.tup vs)=>(match nth vs i with | some (.bool c)=>ZnH c (fun v=>k v [] []) | some v=>k (.d v) [] [] | none=>none)
      | _=>none)=on3 (match x.val e with
      | .tup vs=>(match nth vs i with | some v=>ZeH v | none=>none)
      | .d (.tup vs)=>(match nth vs i with | some v=>ZeH (.d v) | none=>none)
      | _=>none) k
    cases x.val e<;>try rfl
    · rename_i y
      cases y<;>try rfl
      rename_i vs
      dsimp only
      cases nth vs i with
      | none=>rfl
      | some v => cases v <;> try rfl
                  exact ZlQ _ _
    · rename_i vs
      dsimp only
      cases nth vs i with
      | none=>rfl
      | some v => cases v <;> try rfl
                  rename_i y
                  cases y<;>try rfl
                  exact ZlQ _ _
  · exact Zqd _ _ _ _ _ _ _
  · rename_i x args
    show(match ZmN (x.val e) with | some (f,caps)=>(match ZiZ Γ (x.val e) f caps with | true=>none | false=>Zrg Γ cf nid H (ZoI f) (Zrl f caps (Zhl e args)) k) | none=>none)=_
    rw[Zjd]
    cases h:ZmN (x.val e) with
    | none=>rfl
    | some q=>
      obtain⟨f,caps⟩:=q
      dsimp only
      cases hb:ZiZ Γ (x.val e) f caps
      · exact Zqd _ _ _ _ _ _ _
      · rfl
  · rename_i tab x args
    show(match x.val e with
      | .d (.iface t y)=>(match ZoR tab t with | some f=>Zrg Γ cf nid H f (.d y :: Zhl e args) k | none=>none)
      | _=>none)=_
    rw[ZiA]
    cases h:x.val e<;>try rfl
    rename_i y
    cases y<;>try rfl
    rename_i t y
    dsimp only
    cases h2:ZoR tab t with
    | none=>rfl
    | some f=>exact Zqd _ _ _ _ _ _ _
  · exact ZwV _ _ _ _ _ _
  · exact Zxf _ _ _ _ _ _
  · exact Zqd _ _ _ _ _ _ _
  · rename_i x
    show(match elems H (x.val e) with | some xs=>br (Nat.blt 0 xs.length) (k (.d (.bool false)) [] []) none | none=>none)=on3 (match elems H (x.val e) with | some xs=>(match Nat.blt 0 xs.length with | true=>ZeH (.d (.bool false)) | false=>none) | none=>none) k
    cases elems H (x.val e) with
    | none=>rfl
    | some xs=>
      dsimp only
      rw[Zgi]
      cases Nat.blt 0 xs.length<;>rfl
  · rename_i id args
    show(match H,ZnC (Zhl e args) with | [],some l=>bnd (ZoP id l) fun r=>k (.d r) [] [] | _,_=>none)=on3 (match H,ZnC (Zhl e args) with | [],some l=>(match ZoP id l with | some r=>ZeH (.d r) | none=>none) | _,_=>none) k
    cases H<;>cases ZnC (Zhl e args)<;>try rfl
    rename_i l
    dsimp only
    rw[Zho]
    cases ZoP id l<;>rfl
  · exact ZtH _ _ _ _ _
def Zq9 (e:Env) (g:Option (Nat×Bool)) (x y:Option β):Option β:=
  match g with
  | none=>x
  | some (s,b)=>match e s with | .d (.bool t)=>brL (t==b) x y | .d (.tup [])=>y | _=>none
theorem ZtM (e:Env) (g:Option (Nat×Bool)) (x y:Option β):Zq9 e g x y=(match Zh3 e g with | some true=>x | some false=>y | none=>none):=by
  unfold Zq9 Zh3
  cases g with
  | none=>rfl
  | some p=>
    obtain⟨s,b⟩:=p
    dsimp only
    split<;>rename_i h
    · simp only[h,brL];rename_i t;cases h2:t==b<;>rfl
    · simp only[h]
    · split<;>simp_all
end
section
variable {β:Type}
def Zt5 (e:Env) (dst:Option Nat) (H:Zs) (v:V) (up:List (Nat×Blk)) (nw:List Blk) (k:Env→Zs→Option β):Option β:=
  Zup v fun v=>match dst with
    | some i=>(match up,nw with
      | [],[]=>k (e.set i v) H
      | up,nw=>Znn (Zf5 H up++nw) fun H=>k (e.set i v) H)
    | none=>(match up,nw with
      | [],[]=>k e H
      | up,nw=>Znn (Zf5 H up++nw) fun H=>k e H)
theorem Zvt (e:Env) (dst:Option Nat) (H:Zs) (v:V) (up:List (Nat×Blk)) (nw:List Blk) (k:Env→Zs→Option β):Zt5 e dst H v up nw k=k (ZsO e dst v) (Zf5 H up++nw):=by
  unfold Zt5
  rw[Zuo]
  cases dst<;>dsimp only[ZsO]
  all_goals
    split
    · simp[Zf5]
    · rw[Zl3]
def ZvB (e:Env) (dst:Option Nat) (k:Env→Option β):Option β:=match dst with | some i=>k (e.set i (.d (.tup []))) | none=>k e
theorem Zwf (e:Env) (dst:Option Nat) (k:Env→Option β):ZvB e dst k=k (ZsO e dst (.d (.tup []))):=by cases dst<;>rfl
def ZwM:O→Bool
  | .mov _=>true
  | .pick _ _ _=>true
  | .build _ _=>true
  | .bin _ _ _=>true
  | .eqv _ _ _ _=>true
  | .un _ _=>true
  | .conv _ _=>true
  | .mkfn _ _=>true
  | .field _ _ _ _=>true
  | .index _ _ _ _ _=>true
  | .indexS _ _=>true
  | .mx _ _=>true
  | .extract _ _=>true
  | .bslice _ _ 0 _=>true
  | .alloc _=>true
  | .box _=>true
  | _=>false
theorem ZyT {Γ:Ctx}{cf:Zcl}{e:Env}{nid:Nat}{H H':Zs}{op:O} (h:ZwM op=true):opE Γ cf e nid H op=opE Γ cf e nid H' op:=by
  cases op<;>first | rfl | (cases h;done) | skip
  rename_i sz z len ps
  cases len with
  | zero=>rfl
  | succ n=>cases h
noncomputable def Zyg (Γ:Ctx) (cf:Zcl) (l:List Op1) (e:Env) (H:Zs) (k:Env→Zs→Option β):Option β:=
  List.rec (motive:=fun _=>Env→Zs→(Env→Zs→Option β)→Option β) (fun e H k=>k e H)
    (fun o _ ih e H k=>Zq9 e o.guard (ZfU H.length fun nid=>opK Γ cf e nid H o.op fun v up nw=>Zt5 e o.dst H v up nw fun e H=>ih e H k) (ZvB e o.dst fun e=>ih e H k)) l e H k
theorem Zyn (Γ:Ctx) (cf:Zcl) (o:Op1) (r:List Op1) (e:Env) (H:Zs) (k:Env→Zs→Option β) :
    Zyg Γ cf (o :: r) e H k=Zq9 e o.guard (ZfU H.length fun nid=>opK Γ cf e nid H o.op fun v up nw=>Zt5 e o.dst H v up nw fun e H=>Zyg Γ cf r e H k) (ZvB e o.dst fun e=>Zyg Γ cf r e H k):=rfl
theorem Zu2 (Γ:Ctx) (cf:Zcl):∀(l:List Op1) (e:Env) (H:Zs) (k:Env→Zs→Option β),Zyg Γ cf l e H k=(match Zj9 Γ cf l e H with | some (e,H)=>k e H | none=>none)
  | [],e,H,k=>rfl
  | o :: l,e,H,k=>by
    rw[Zyn]
    unfold Zj9
    rw[ZtM,Zf8,ZuK,Zwf]
    cases hw:Zh3 e o.guard with
    | none=>rfl
    | some b=>
      cases b with
      | false=>exact Zu2 Γ cf l _ _ k
      | true=>
        dsimp only
        cases ho:opE Γ cf e H.length H o.op with
        | none=>rfl
        | some q=>obtain⟨v,up,nw⟩:=q;simp only[on3,Zvt];exact Zu2 Γ cf l _ _ k
def Zpj (l:List (Nat×Nat)) (k:List (Nat×Nat)→Option β):Option β:=
  match l with
  | []=>k []
  | p :: l=>ZfU p.1 fun a=>ZfU p.2 fun b=>Zpj l fun l=>k ((a,b) :: l)
theorem Zrb:∀(l:List (Nat×Nat)) (k:List (Nat×Nat)→Option β),Zpj l k=k l
  | [],k=>rfl
  | p :: l,k=>by unfold Zpj;rw[Zf8,Zf8,Zrb l]
def ZCj (o:O) (mask:List Nat) (H:Zs) (pos:List (Nat×Nat)) (k:Zs→Option β):Option β:=
  match ZwM o with
  | true=>k H
  | false=>(match mask with | []=>k H | mask=>Znn (ZiV H pos mask) k)
noncomputable def Ztv (Γ:Ctx) (cf:Zcl) (pos:List (Nat×Nat)) (l:List Op1) (e:Env) (H:Zs) (k:Env→Zs→Option β):Option β:=
  List.rec (motive:=fun _=>List (Nat×Nat)→Env→Zs→(Env→Zs→Option β)→Option β) (fun _ e H k=>k e H)
    (fun o _ ih pos e H k=>Zq9 e o.guard (ZfU H.length fun nid=>ZCj o.op o.mask H pos fun Hm=>opK Γ cf e nid Hm o.op fun v up nw=>
      (match Zr4 e H o up nw with | true=>ZfU nw.length fun m=>Zpj (pos++[(nid,m)]) fun pos=>Zt5 e o.dst H v up nw fun e' H'=>ih pos e' H' k | false=>none)) (ZvB e o.dst fun e'=>ZfU H.length fun nid=>Zpj (pos++[(nid,0)]) fun pos=>ih pos e' H k)) l pos e H k
theorem ZwE (Γ:Ctx) (cf:Zcl) (pos:List (Nat×Nat)) (o:Op1) (r:List Op1) (e:Env) (H:Zs) (k:Env→Zs→Option β) :
    Ztv Γ cf pos (o :: r) e H k=Zq9 e o.guard (ZfU H.length fun nid=>ZCj o.op o.mask H pos fun Hm=>opK Γ cf e nid Hm o.op fun v up nw=>
      (match Zr4 e H o up nw with | true=>ZfU nw.length fun m=>Zpj (pos++[(nid,m)]) fun pos=>Zt5 e o.dst H v up nw fun e' H'=>Ztv Γ cf pos r e' H' k | false=>none)) (ZvB e o.dst fun e'=>ZfU H.length fun nid=>Zpj (pos++[(nid,0)]) fun pos=>Ztv Γ cf pos r e' H k):=rfl
theorem ZAX (Γ:Ctx) (cf:Zcl) (e:Env) (nid:Nat) (o:O) (mask:List Nat) (H:Zs) (pos:List (Nat×Nat)) (k:K3 β):(ZCj o mask H pos fun Hm=>opK Γ cf e nid Hm o k)=opK Γ cf e nid (ZiV H pos mask) o k:=by
  unfold ZCj
  cases h:ZwM o with
  | true=>dsimp only;rw[ZuK,ZuK,ZyT h (H:=H) (H':=ZiV H pos mask)]
  | false=>
    dsimp only
    cases mask with
    | nil=>rfl
    | cons a l=>dsimp only;rw[Zl3]
theorem Zs6 (Γ:Ctx) (cf:Zcl):∀(l:List Op1) (pos:List (Nat×Nat)) (e:Env) (H:Zs) (k:Env→Zs→Option β),Ztv Γ cf pos l e H k=(match ZhG Γ cf pos l e H with | some (e,H)=>k e H | none=>none)
  | [],pos,e,H,k=>rfl
  | o :: l,pos,e,H,k=>by
    rw[ZwE]
    unfold ZhG
    rw[ZtM,Zf8,ZAX,ZuK,Zwf,Zf8,Zrb]
    cases hw:Zh3 e o.guard with
    | none=>rfl
    | some b=>
      cases b with
      | false=>exact Zs6 Γ cf l _ _ _ k
      | true=>
        dsimp only
        cases ho:opE Γ cf e H.length (ZiV H pos o.mask) o.op with
        | none=>rfl
        | some q=>
          obtain⟨v,up,nw⟩:=q
          simp only[on3]
          cases hb:(Zr4 e H o up nw)<;>simp only[cond_true,cond_false,Zvt,Zf8,Zrb]
          exact Zs6 Γ cf l _ _ _ k
noncomputable def lpW (Γ:Ctx) (k:Nat) (live outs:List Nat) (a:C) (vs:List V) (H:Zs):Option (Ex×List V×Zs):=
  itW (fun vs H=>ZgO k live outs (Zae Γ (evW Γ) itW k a (Zgc live vs) H)) vs H
noncomputable def Zlw (Γ:Ctx) (k0:Nat) (c:C) (e:Env) (H:Zs) (k:Ex→Env→Zs→Option β):Option β:=
  C.rec (motive:=fun _=>Env→Zs→(Ex→Env→Zs→Option β)→Option β)
    (fun e H k=>k .normal e H) (fun e H k=>k .ret e H) (fun id e H k=>k (.exit id) e H)
    (fun _ _ ia ib e H k=>ia e H fun x e H=>(match x with | .normal=>ib e H k | .exit i=>k (.exit i) e H | .ret=>k .ret e H))
    (fun x _ _ ia ib e H k=>(match x.val e with | .d (.bool t)=>brL t (ia e H k) (ib e H k) | _=>none))
    (fun id _ ia e H k=>ia e H fun x e H=>(match x with | .exit j=>(match Nat.beq j id with | true=>k .normal e H | false=>k (.exit j) e H) | .normal=>k .normal e H | .ret=>k .ret e H))
    (fun live outs a _ e H k=>Zst k0 (live.map e) H fun vs H=>bnd (lpW Γ k0 live outs a vs H) fun r=>k r.1 (Zgc outs r.2.1) r.2.2)
    (fun l e H k=>Zyg Γ (evW Γ) l e H fun e H=>k .normal e H)
    (fun l e H k=>Ztv Γ (evW Γ) [] l e H fun e H=>k .normal e H) c e H k
theorem ZpC (Γ:Ctx) (k0:Nat):∀(c:C) (e:Env) (H:Zs) (k:Ex→Env→Zs→Option β),Zlw Γ k0 c e H k=(match Zae Γ (evW Γ) itW k0 c e H with | some (x,e,H)=>k x e H | none=>none):=by
  intro c
  induction c with
  | skip=>intros;rfl
  | ret=>intros;rfl
  | exit id=>intros;rfl
  | seq a b iha ihb=>
    intro e H k
    show(Zlw Γ k0 a e H fun x e H=>(match x with | .normal=>Zlw Γ k0 b e H k | .exit i=>k (.exit i) e H | .ret=>k .ret e H))=_
    unfold Zae
    rw[iha]
    cases h:Zae Γ (evW Γ) itW k0 a e H with
    | none=>rfl
    | some q=>
      obtain⟨x,e1,H1⟩:=q
      cases x with
      | normal=>exact ihb e1 H1 k
      | exit i=>rfl
      | ret=>rfl
  | cond x a b iha ihb=>
    intro e H k
    show(match x.val e with | .d (.bool t)=>brL t (Zlw Γ k0 a e H k) (Zlw Γ k0 b e H k) | _=>none)=_
    unfold Zae
    cases h:x.val e<;>try rfl
    rename_i y
    cases y<;>try rfl
    rename_i t
    cases t
    · exact ihb e H k
    · exact iha e H k
  | block id a iha=>
    intro e H k
    show(Zlw Γ k0 a e H fun x e H=>(match x with | .exit j=>(match Nat.beq j id with | true=>k .normal e H | false=>k (.exit j) e H) | .normal=>k .normal e H | .ret=>k .ret e H))=_
    unfold Zae
    rw[iha]
    cases h:Zae Γ (evW Γ) itW k0 a e H with
    | none=>rfl
    | some q=>
      obtain⟨x,e1,H1⟩:=q
      cases x with
      | normal=>rfl
      | exit j=>dsimp only;cases h2:Nat.beq j id<;>rfl
      | ret=>rfl
  | loop live outs a iha=>
    intro e H k
    show(Zst k0 (live.map e) H fun vs H=>bnd (lpW Γ k0 live outs a vs H) fun r=>k r.1 (Zgc outs r.2.1) r.2.2)=_
    unfold Zae
    rw[ZvO]
    cases h:Zrz k0 (live.map e) H with
    | none=>rfl
    | some q=>
      obtain⟨vs,H1⟩:=q
      simp only[lpW,Zho]
      cases h2:itW (fun vs H=>ZgO k0 live outs (Zae Γ (evW Γ) itW k0 a (Zgc live vs) H)) vs H1 with
      | none=>rfl
      | some r=>obtain⟨x,vs,H⟩:=r;rfl
  | ops l=>
    intro e H k
    show(Zyg Γ (evW Γ) l e H fun e H=>k .normal e H)=_
    unfold Zae
    rw[Zu2]
    cases h:Zj9 Γ (evW Γ) l e H<;>rfl
  | draw l=>
    intro e H k
    show(Ztv Γ (evW Γ) [] l e H fun e H=>k .normal e H)=_
    unfold Zae
    rw[Zs6]
    cases h:ZhG Γ (evW Γ) [] l e H<;>rfl
theorem ZDZ (Γ:Ctx) (k:Nat) (live outs:List Nat) (a:C) (vs:List V) (H:Zs) :
    lpW Γ k live outs a vs H=Zlw Γ k a (Zgc live vs) H fun x e H=>(match x with
      | .normal=>Zst k (live.map e) H fun vs H=>lpW Γ k live outs a vs H
      | x=>ZiM k (outs.map e) H fun _ vs H=>some (x,vs,H)):=by
  unfold lpW
  rw[ZDC,ZpC]
  cases h:Zae Γ (evW Γ) itW k a (Zgc live vs) H with
  | none=>rfl
  | some q=>
    obtain⟨x,e,H1⟩:=q
    cases x with
    | normal=>
      simp only[ZgO]
      rw[ZvO]
      cases h2:Zrz k (live.map e) H1 with
      | none=>rfl
      | some r=>obtain⟨vs,H2⟩:=r;rfl
    | exit j=>
      simp only[ZgO]
      rw[Zfg]
      cases h2:extract k (outs.map e) H1 with
      | none=>rfl
      | some r=>obtain⟨L,vs,H2⟩:=r;rfl
    | ret=>
      simp only[ZgO]
      rw[Zfg]
      cases h2:extract k (outs.map e) H1 with
      | none=>rfl
      | some r=>obtain⟨L,vs,H2⟩:=r;rfl
theorem ZeK (Γ:Ctx) (f:Nat) (fn:FnI) (args:List V) (H:Zs) (hc:Γ.code f=some fn) (hn:Nat.beq args.length fn.nargs=true) :
    evW Γ f args H=Zlw Γ H.length fn.body (Zg3 0 args) H fun x e H1=>(match x with
      | .exit _=>none
      | _=>(match Zok e H1 fn.res with
        | some l=>ZiM H.length [ZjX l] H1 fun _ vs H2=>(match vs with | [v]=>some (v,H2) | _=>none)
        | none=>none)):=by
  rw[ZD9]
  unfold Znk
  simp only[hc,hn,cond_true]
  rw[ZpC]
  cases h:Zae Γ (evW Γ) itW H.length fn.body (Zg3 0 args) H with
  | none=>rfl
  | some q=>
    obtain⟨x,e,H1⟩:=q
    cases x<;>try rfl
    all_goals
      dsimp only
      cases h2:Zok e H1 fn.res with
      | none=>rfl
      | some l=>
        dsimp only
        rw[Zfg]
        cases h3:extract H.length [ZjX l] H1 with
        | none=>rfl
        | some q=>
          obtain⟨L,vs,H2⟩:=q
          match vs with
          | []=>rfl
          | [v]=>rfl
          | _ :: _ :: _=>rfl
end
theorem ZCz {β:Type} (x y:Option β):br true x y=x:=Zgi _ _ _
theorem ZCT {β:Type} (x y:Option β):br false x y=y:=Zgi _ _ _
theorem Zvw {β:Type} (x:Option β):bnd x some=x:=by rw[Zho];cases x<;>rfl
attribute [irreducible] br bnd lpW
end Go.Proofs.YtnpidpcmpleiaaaGreatDoorE
namespace Go.Proofs.YtnpidpcmpleiaaaGreatDoorE
open Go
open Go.IntKind (u64 i64 u32 i32 u8)
structure Zas where
 op:Int
 arg:Int
 work:Int
 deriving DecidableEq
structure Zo where
 src:Int
 dst:Int
 deriving DecidableEq
structure Zl where
 maker:Int
 user:Int
 pos:Int
 deriving DecidableEq
structure Zw where
 ins:List Int
 outs:List Int
 deriving DecidableEq
structure Zp where
 period:Int
 deadline:Int
 parts:List Zas
 edges:List Zo
 futures:List Zl
 barriers:List Zw
 deriving DecidableEq
abbrev Ze (n:Int):D:=.int .i64 n
abbrev Zz7 (τ:Bool) (l:List Int):D:=.list τ (l.map Ze)
abbrev ZaC (p:Zas):D:=.agg [Ze p.op,Ze p.arg,Ze p.work]
abbrev ZA (e:Zo):D:=.agg [Ze e.src,Ze e.dst]
abbrev Zv (f:Zl):D:=.agg [Ze f.maker,Ze f.user,Ze f.pos]
abbrev ZD (b:Zw):D:=.agg [Zz7 true b.ins,Zz7 true b.outs]
abbrev ZF6 (τ:Bool) (d:Zp):D:=.agg [Ze d.period,Ze d.deadline,.list τ (d.parts.map ZaC),.list τ (d.edges.map ZA),.list τ (d.futures.map Zv),.list τ (d.barriers.map ZD)]
theorem ZEx {n:Int} (h1 : -9223372036854775808≤n) (h2:n<9223372036854775808):i64.wrap n=n:=by
 show(if (true&&decide (n % 18446744073709551616 ≥ 9223372036854775808))=true then n % 18446744073709551616-18446744073709551616 else n % 18446744073709551616)=n
 by_cases h:n % 18446744073709551616 ≥ 9223372036854775808
 ·rw[decide_eq_true h];simp only[Bool.and_self,if_true];omega
 ·rw[decide_eq_false h];simp only[Bool.and_false,Bool.false_eq_true,if_false];omega
theorem ZAj {α:Type} (xs:List α) (i:Nat):Zx xs (i:Int)=xs[i]?:=by
 unfold Zx
 have:decide ((0:Int)≤i)=true:=by simp
 rw[this];simp[Zaw]
theorem Zai (Γ:Ctx) (k:Nat) (live outs:List Nat) (a:C) (vs:List V) (H:Zs) :
  lpW Γ k live outs a vs H=Zlw Γ k a (Zgc live vs) H fun x e H=>(match x with
   | .normal=>Zst k (live.map e) H fun vs H=>bnd (lpW Γ k live outs a vs H) some
   | x=>ZiM k (outs.map e) H fun _ vs H=>some (x,vs,H)):=by
 refine(ZDZ Γ k live outs a vs H).trans (congrArg (Zlw Γ k a (Zgc live vs) H) ?_)
 funext x e H
 cases x
 ·exact congrArg (Zst k (live.map e) H) (funext fun vs=>funext fun H=>(Zvw _).symm)
 ·rfl
 ·rfl
theorem Zmb {α:Type}{f:α→D}{sz:Nat} (hf:∀x,(f x).cells.length=sz∧(V.d (f x)).okb=true) (l:List α) (i:Nat):Znl sz (l.map f) i=true:=by
 unfold Znl
 rw[Zaw,List.getElem?_map]
 cases l[i]? with
 | none=>rfl
 | some x=>simp[hf x]
theorem ZFr {β:Type}{c:Bool}{x y:Option β} (h:c=true):br c x y=x:=by rw[h,ZCz]
theorem ZGg {β:Type}{c:Bool}{x y:Option β} (h:c=false):br c x y=y:=by rw[h,ZCT]
def first {α:Type} (p:α→Bool):Nat→List α→Option Nat
 | _,[]=>none
 | i,x :: l=>bif p x then some i else first p (i+1) l
theorem ZDE {Γ:Ctx}{f:Nat}{args:List V}{H:Zs}{r:V×Zs} (n:Nat) (h:evN Γ n f args H=some r):evW Γ f args H=some r:=(Zld Γ f args H r).2 ⟨n,h⟩
theorem Zu0 {α:Type}{f:α→D}{p:α→Prop}:∀{xs:List D},(∀y∈xs,∃a,y=f a∧p a)→∃l:List α,xs=l.map f∧∀a∈l,p a
 | [],_=>⟨[],rfl,by simp⟩
 | x :: xs,h=>by
  obtain⟨a,ha,hp⟩:=h x (by simp)
  obtain⟨l,hl,hq⟩:=Zu0 (xs:=xs) fun y hy=>h y (by simp[hy])
  refine⟨a :: l,by rw[ha,hl];rfl,fun b hb=>?_⟩
  rcases List.mem_cons.1 hb with rfl | hb
  ·exact hp
  ·exact hq b hb
def I64 (n:Int):Prop:=-9223372036854775808≤n∧n<9223372036854775808
theorem Zk6 {n:Int} (h:(Lit.int .i64 n).wf=true):I64 n:=by
 unfold Lit.wf at h
 simp only[Bool.and_eq_true,decide_eq_true_eq] at h
 have e1:i64.min = -9223372036854775808:=by decide
 have e2:i64.max=9223372036854775807:=by decide
 rw[e1,e2] at h
 unfold I64
 omega
theorem ZEF {y:D}{n:Nat} (h:y.isAgg=true):y = .agg y.cells:=by
 cases y<;>first | rfl | cases h
theorem ZCx {y:D} (h:y.isAgg=false):y.cells=[y]:=by
 cases y<;>first | rfl | cases h
theorem ZDl {n:Nat} (h:n≤maxLen):n<9223372036854775808:=by
 unfold maxLen at h;omega
def ZFd (l:List Int):Prop:=l.length<9223372036854775808∧∀n∈l,I64 n
theorem Zxt {x:D} (h:ZCy (.sl false [.int .i64]) x):∃l,x=Zz7 true l∧ZFd l:=by
 obtain⟨xs,rfl,h1,h2⟩:=h
 obtain⟨l,hl,hp⟩:=Zu0 (f:=Ze) (p:=I64) (xs:=xs) fun y hy=>by
  obtain⟨a1,a2⟩:=h2 y hy
  rw[ZCx a1] at a2
  obtain⟨d,r,e1,⟨n,e2,e3⟩,_⟩:=a2
  cases e1
  exact⟨n,e2,Zk6 e3⟩
 subst hl
 exact⟨l,rfl,by simpa using ZDl h1,hp⟩
def ZAk (p:Zas):Prop:=I64 p.op∧I64 p.arg∧I64 p.work
def ZAK (e:Zo):Prop:=I64 e.src∧I64 e.dst
def Zvi (f:Zl):Prop:=I64 f.maker∧I64 f.user∧I64 f.pos
def Zt6 (b:Zw):Prop:=ZFd b.ins∧ZFd b.outs
structure ZDR (d:Zp):Prop where
 period:I64 d.period
 deadline:I64 d.deadline
 pl:d.parts.length<9223372036854775808
 p:∀x∈d.parts,ZAk x
 el:d.edges.length<9223372036854775808
 e:∀x∈d.edges,ZAK x
 fl:d.futures.length<9223372036854775808
 f:∀x∈d.futures,Zvi x
 bl:d.barriers.length<9223372036854775808
 b:∀x∈d.barriers,Zt6 x
theorem ZrK {x:D}{els:List Lf}{α:Type}{f:α→D}{p:α→Prop} (h:ZCy (.sl true els) x) (hf:∀cs,Zkm els cs→∃a,D.agg cs=f a∧p a):∃l:List α,x = .list true (l.map f)∧l.length<9223372036854775808∧∀a∈l,p a:=by
 obtain⟨xs,rfl,h1,h2⟩:=h
 obtain⟨l,hl,hp⟩:=Zu0 (f:=f) (p:=p) (xs:=xs) fun y hy=>by
  obtain⟨a1,a2⟩:=h2 y hy
  rw[ZEF (n:=0) a1]
  exact hf _ a2
 subst hl
 exact⟨l,rfl,by simpa using ZDl h1,hp⟩
abbrev ZFK:List Lf:=[.int .i64,.int .i64,.sl true [.int .i64,.int .i64,.int .i64],.sl true [.int .i64,.int .i64],.sl true [.int .i64,.int .i64,.int .i64],.sl true [.sl false [.int .i64],.sl false [.int .i64]]]
theorem ZBZ {xs:List D} (h:Zkm ZFK xs):∃d,D.agg xs=ZF6 true d∧ZDR d:=by
 obtain⟨x1,r1,rfl,⟨n1,rfl,w1⟩,x2,r2,rfl,⟨n2,rfl,w2⟩,x3,r3,rfl,h3,x4,r4,rfl,h4,x5,r5,rfl,h5,x6,r6,rfl,h6,rfl⟩:=h
 obtain⟨l3,rfl,b3,p3⟩:=ZrK (f:=ZaC) (p:=ZAk) h3 fun cs hc=>by
  obtain⟨_,_,rfl,⟨a,rfl,wa⟩,_,_,rfl,⟨b,rfl,wb⟩,_,_,rfl,⟨c,rfl,wc⟩,rfl⟩:=hc
  exact⟨⟨a,b,c⟩,rfl,Zk6 wa,Zk6 wb,Zk6 wc⟩
 obtain⟨l4,rfl,b4,p4⟩:=ZrK (f:=ZA) (p:=ZAK) h4 fun cs hc=>by
  obtain⟨_,_,rfl,⟨a,rfl,wa⟩,_,_,rfl,⟨b,rfl,wb⟩,rfl⟩:=hc
  exact⟨⟨a,b⟩,rfl,Zk6 wa,Zk6 wb⟩
 obtain⟨l5,rfl,b5,p5⟩:=ZrK (f:=Zv) (p:=Zvi) h5 fun cs hc=>by
  obtain⟨_,_,rfl,⟨a,rfl,wa⟩,_,_,rfl,⟨b,rfl,wb⟩,_,_,rfl,⟨c,rfl,wc⟩,rfl⟩:=hc
  exact⟨⟨a,b,c⟩,rfl,Zk6 wa,Zk6 wb,Zk6 wc⟩
 obtain⟨l6,rfl,b6,p6⟩:=ZrK (f:=ZD) (p:=Zt6) h6 fun cs hc=>by
  obtain⟨_,_,rfl,ha,_,_,rfl,hb,rfl⟩:=hc
  obtain⟨a,rfl,wa⟩:=Zxt ha
  obtain⟨b,rfl,wb⟩:=Zxt hb
  exact⟨⟨a,b⟩,rfl,wa,wb⟩
 exact⟨⟨n1,n2,l3,l4,l5,l6⟩,rfl,Zk6 w1,Zk6 w2,b3,p3,b4,p4,b5,p5,b6,p6⟩
def lpN {S R:Type} (step:S→Option (S⊕R)):Nat→S→Option R
 | 0,_=>none
 | n+1,s=>(match step s with | some (.inl s')=>lpN step n s' | some (.inr r)=>some r | none=>none)
theorem Zwq {S R:Type} (step:S→Option (S⊕R)):∀(n m:Nat) (s:S) (r:R),n≤m→lpN step n s=some r→lpN step m s=some r
 | 0,_,_,_,_,h=>by cases h
 | n+1,0,_,_,hm,_=>by omega
 | n+1,m+1,s,r,hm,h=>by
  unfold lpN at h ⊢
  cases hs:step s with
  | none=>rw[hs] at h;cases h
  | some t=>
   rw[hs] at h
   cases t with
   | inl s'=>exact Zwq step n m s' r (by omega) h
   | inr r'=>exact h
noncomputable def lp {S R:Type} (step:S→Option (S⊕R)) (s:S):Option R:=@dite _ (∃n,(lpN step n s).isSome=true) (Classical.propDecidable _) (fun h=>lpN step (Classical.choose h) s) fun _=>none
theorem ZzG {S R:Type}{step:S→Option (S⊕R)}{s:S}{r:R}{n:Nat} (h:lpN step n s=some r):lp step s=some r:=by
 unfold lp
 have hx:∃n,(lpN step n s).isSome=true:=⟨n,by rw[h];rfl⟩
 rw[dif_pos hx]
 have h2:=Classical.choose_spec hx
 cases h3:lpN step (Classical.choose hx) s with
 | none=>rw[h3] at h2;cases h2
 | some q=>
  have h4:=Zwq step _ (max n (Classical.choose hx)) s q (by omega) h3
  have h5:=Zwq step _ (max n (Classical.choose hx)) s r (by omega) h
  rw[h4] at h5
  exact h5
theorem ZA3 {S R:Type}{step:S→Option (S⊕R)}{s:S}{r:R} (h:lp step s=some r):∃n,lpN step n s=some r:=by
 unfold lp at h
 split at h
 ·exact⟨_,h⟩
 ·cases h
theorem Zbz {S R:Type} (step:S→Option (S⊕R)) (s:S):lp step s=(match step s with | some (.inl s')=>lp step s' | some (.inr r)=>some r | none=>none):=by
 have key:∀r,lp step s=some r↔(match step s with | some (.inl s')=>lp step s' | some (.inr r)=>some r | none=>none)=some r:=by
  intro r
  constructor
  ·intro h
   obtain⟨n,hn⟩:=ZA3 h
   cases n with
   | zero=>cases hn
   | succ n=>
    unfold lpN at hn
    cases hs:step s with
    | none=>rw[hs] at hn;cases hn
    | some t=>
     rw[hs] at hn
     cases t with
     | inl s'=>exact ZzG hn
     | inr r'=>exact hn
  ·intro h
   cases hs:step s with
   | none=>rw[hs] at h;cases h
   | some t=>
    rw[hs] at h
    cases t with
    | inl s'=>
     obtain⟨n,hn⟩:=ZA3 h
     exact ZzG (n:=n+1) (by unfold lpN;rw[hs];exact hn)
    | inr r'=>exact ZzG (n:=1) (by unfold lpN;rw[hs];exact h)
 cases h1:lp step s with
 | some r=>exact((key r).1 h1).symm
 | none=>
  cases h2:(match step s with | some (.inl s')=>lp step s' | some (.inr r)=>some r | none=>none) with
  | none=>rfl
  | some r=>rw[(key r).2 h2] at h1;cases h1
theorem Zsp {S R:Type}{step:S→Option (S⊕R)}{s s':S} (h:step s=some (.inl s')):lp step s=lp step s':=by rw[Zbz,h]
theorem ZCL {S R:Type}{step:S→Option (S⊕R)}{s:S}{r:R} (h:step s=some (.inr r)):lp step s=some r:=by rw[Zbz,h]
noncomputable def Zyq {R:Type} (g:Nat→Option R):Option R:=@dite _ (∃r:R,∃N,∀n,N≤n→g n=some r) (Classical.propDecidable _) (fun h=>some (Classical.choose h)) fun _=>none
theorem ZxV {R:Type}{g:Nat→Option R}{r:R} (h:Zyq g=some r):∃n,g n=some r:=by
 unfold Zyq at h
 split at h
 ·rename_i hx
  obtain⟨N,hN⟩:=Classical.choose_spec hx
  exact⟨N,(hN N (Nat.le_refl _)).trans h⟩
 ·cases h
theorem ZB5 {R:Type}{g:Nat→Option R}{N:Nat}{r:R} (h:∀n,N≤n→g n=some r):Zyq g=some r:=by
 have hx:∃r:R,∃N,∀n,N≤n→g n=some r:=⟨r,N,h⟩
 unfold Zyq
 rw[dif_pos hx]
 obtain⟨M,hM⟩:=Classical.choose_spec hx
 rw[← hM (max N M) (by omega),h (max N M) (by omega)]
def ZN {α β:Type} (E:Option α) (Q:α→Option β→Prop) (rhs:Option β):Prop:=∀a,E=some a→Q a rhs
section
variable {α β:Type} {A B:Option α} {Q:α→Option β→Prop}
theorem Zf {c c':Bool}{X Y:Option β} (h:c=c') (h1:ZN A Q X) (h2:ZN B Q Y):ZN (bif c' then A else B) Q (br c X Y):=by
 subst h
 cases c with
 | true=>rw[ZCz];exact h1
 | false=>rw[ZCT];exact h2
theorem Zbl {c:Bool}{X Y:Option β} (h:c=true) (h1:ZN A Q X):ZN A Q (br c X Y):=by rw[h,ZCz];exact h1
theorem ZV {c:Bool}{X Y:Option β} (h:c=false) (h1:ZN A Q Y):ZN A Q (br c X Y):=by rw[h,ZCT];exact h1
theorem Zm {γ:Type}{x x':γ}{K:γ→Option β} (h:x=x') (k:ZN A Q (K x')):ZN A Q (bnd (some x) K):=by rw[h,ZnX];exact k
theorem Zg {γ:Type}{X:Option γ}{x:γ}{K:γ→Option β} (h:X=some x) (k:ZN A Q (K x)):ZN A Q (bnd X K):=by rw[h,ZnX];exact k
theorem Zc {γ δ:Type}{E:Option γ}{A:γ→Option α}{X:Option δ}{K:δ→Option β} (enc:γ→δ) (h:∀r,E=some r→X=some (enc r)) (k:∀r,E=some r→ZN (A r) Q (K (enc r))):ZN (E.bind A) Q (bnd X K):=by
 intro a ha
 cases hE:E with
 | none=>rw[hE] at ha;cases ha
 | some r=>
  rw[hE] at ha
  rw[h r hE,ZnX]
  exact k r hE a ha
theorem Zv6 {γ δ:Type} (f:γ→δ) (l:List γ) (i:Int):Zx (l.map f) i=(Zx l i).map f:=by
 unfold Zx
 cases decide (0≤i) with
 | false=>rfl
 | true=>simp only[cond_true,Zaw,List.getElem?_map]
theorem Zk {γ:Type}{f:γ→D}{l:List γ}{xs:List D}{i i':Int}{A:γ→Option α}{K:D→Option β} (hx:xs=l.map f) (hi:i=i') (k:∀r,Zx l i'=some r→ZN (A r) Q (K (f r))):ZN ((Zx l i').bind A) Q (bnd (Zx xs i) K):=by
 subst hx hi
 exact Zc f (fun r h=>by rw[Zv6,h];rfl) k
theorem Zn {γ:Type}{f:γ→D}{l:List γ}{xs:List D}{i:Int}{r:γ} (hx:xs=l.map f) (h:Zx l i=some r):nth xs i.toNat=some (f r):=by
 subst hx
 unfold Zx at h
 cases hd:decide (0≤i) with
 | false=>rw[hd] at h;cases h
 | true=>rw[hd,cond_true,Zaw] at h;rw[Zaw,List.getElem?_map,h];rfl
theorem Zam {γ:Type}{f:γ→D}{l:List γ}{xs:List D}{i:Int}{r:γ} (hx:xs=l.map f) (h:Zx l i=some r):Zx xs i=some (f r):=by
 subst hx
 rw[Zv6,h];rfl
theorem Zju {γ:Type}{E X:Option γ}{A:γ→Option α}{K:γ→Option β} (h:X=E) (k:∀r,E=some r→ZN (A r) Q (K r)):ZN (E.bind A) Q (bnd X K):=by
 subst h
 exact Zc id (fun r h=>h) k
theorem Zh {a:α}{X:Option β} (h:Q a X):ZN (some a) Q X:=fun b hb=>by cases hb;exact h
theorem ZaH {X:Option β}:ZN (none:Option α) Q X:=fun b hb=>by cases hb
def mpD {K W:Type} (f:K→D) (g:W→D) (l:List (K×W)):List (D×D):=l.map fun q=>(f q.1,g q.2)
def ZaT {K W:Type} (eq:K→K→Bool):List (K×W)→K→W→W
 | [],_,z=>z
 | (a,v) :: r,k,z=>bif eq k a then v else ZaT eq r k z
def ZB {K W:Type} (eq:K→K→Bool):List (K×W)→K→W→List (K×W)
 | [],k,v=>[(k,v)]
 | (a,u) :: r,k,v=>bif eq k a then (a,v) :: r else (a,u) :: ZB eq r k v
theorem ZcB {K W:Type}{f:K→D}{g:W→D} (eq:K→K→Bool) (he:∀a b,eqD (f a) (f b)=some (eq a b)) (l:List (K×W)) (k:K) (z:W):ZBc (mpD f g l) (f k) (g z)=some (g (ZaT eq l k z)):=by
 induction l with
 | nil=>rfl
 | cons q r ih=>
  obtain⟨a,v⟩:=q
  show(match (match eqD (f k) (f a) with | some true=>some (some (g v)) | some false=>Zl8 (mpD f g r) (f k) | none=>none) with | some (some y)=>some y | some none=>some (g z) | none=>none)=_
  rw[he]
  unfold ZaT
  cases eq k a with
  | true=>rfl
  | false=>exact ih
theorem ZfL {K W:Type}{f:K→D}{g:W→D} (eq:K→K→Bool) (he:∀a b,eqD (f a) (f b)=some (eq a b)) (l:List (K×W)) (k:K) (v:W):ZlA (mpD f g l) (f k) (g v)=some (mpD f g (ZB eq l k v)):=by
 induction l with
 | nil=>rfl
 | cons q r ih=>
  obtain⟨a,u⟩:=q
  show(match eqD (f k) (f a) with | some true=>some ((f a,g v) :: mpD f g r) | some false=>(match ZlA (mpD f g r) (f k) (g v) with | some l=>some ((f a,g u) :: l) | none=>none) | none=>none)=_
  rw[he]
  unfold ZB
  cases eq k a with
  | true=>rfl
  | false=>dsimp only;rw[ih];rfl
noncomputable def evD (Γ:Ctx) (f:Nat) (args:List V):Option D:=bnd (evW Γ f args []) fun r=>(match fr r.2 6 r.1 with | some (x,_)=>some x | none=>none)
theorem ZyH (Γ:Ctx) (f:Nat) (args:List V) (K:V→Option β):bnd (evW Γ f args []) (Ztm K)=bnd (evD Γ f args) (fun x=>ZBD x K):=by
 unfold evD Ztm
 simp only[Zho]
 cases evW Γ f args [] with
 | none=>rfl
 | some r=>
  dsimp only
  cases fr r.2 6 r.1 with
  | none=>rfl
  | some q=>rfl
theorem Zq {γ:Type}{Γ:Ctx}{f:Nat}{args args':List V}{E:Option γ}{A:γ→Option α}{K:V→Option β} (enc:γ→D) (w:∀r,E=some r→evD Γ f args'=some (enc r)) (ha:args=args') (k:∀r,E=some r→ZN (A r) Q (ZBD (enc r) K)):ZN (E.bind A) Q (bnd (evW Γ f args []) (Ztm K)):=by
 subst ha
 rw[ZyH]
 exact Zc enc w k
end
theorem Zya {β δ:Type} (Γ:Ctx) (k0:Nat) (c:C) (e:Env) (H:Zs) (k:Ex→Env→Zs→Option β) (p:β→Option δ):bnd (Zlw Γ k0 c e H k) p=Zlw Γ k0 c e H fun x e H=>bnd (k x e H) p:=by
 rw[ZpC,ZpC]
 cases Zae Γ (evW Γ) itW k0 c e H with
 | none=>exact Zho _ _
 | some q=>rfl
theorem Zbj (Γ:Ctx) (f:Nat) (fn:FnI) (args:List V) (hc:Γ.code f=some fn) (hn:Nat.beq args.length fn.nargs=true) :
  evD Γ f args=Zlw Γ 0 fn.body (Zg3 0 args) [] fun x e H1=>(match x with
   | .exit _=>none
   | _=>(match Zok e H1 fn.res with
    | some l=>ZiM 0 [ZjX l] H1 fun _ vs H2=>(match vs with | [v]=>(match fr H2 6 v with | some (x,_)=>some x | none=>none) | _=>none)
    | none=>none)):=by
 unfold evD
 rw[ZeK Γ f fn args [] hc hn,Zya]
 refine congrArg (Zlw Γ 0 fn.body (Zg3 0 args) []) ?_
 funext x e H1
 have none_b:∀{γ δ:Type} (p:γ→Option δ),bnd none p=none:=fun p=>Zho _ _
 cases x with
 | exit j=>exact none_b _
 | normal=>
  dsimp only
  cases Zok e H1 fn.res with
  | none=>exact none_b _
  | some l=>
   dsimp only
   rw[Zfg,Zfg]
   show bnd (match extract 0 [ZjX l] H1 with | some (L,vs,H)=>_ | none=>none) _=_
   cases extract 0 [ZjX l] H1 with
   | none=>exact none_b _
   | some q=>
    obtain⟨L,vs,H2⟩:=q
    match vs with
    | []=>exact none_b _
    | [v]=>exact ZnX _ _
    | _ :: _ :: _=>exact none_b _
 | ret=>
  dsimp only
  cases Zok e H1 fn.res with
  | none=>exact none_b _
  | some l=>
   dsimp only
   rw[Zfg,Zfg]
   show bnd (match extract 0 [ZjX l] H1 with | some (L,vs,H)=>_ | none=>none) _=_
   cases extract 0 [ZjX l] H1 with
   | none=>exact none_b _
   | some q=>
    obtain⟨L,vs,H2⟩:=q
    match vs with
    | []=>exact none_b _
    | [v]=>exact ZnX _ _
    | _ :: _ :: _=>exact none_b _
theorem ZEK {Γ:Ctx}{f:Nat}{args:List V}{x:D} (n:Nat) (h:(match evN Γ n f args [] with | some (v,H)=>(match fr H 6 v with | some (x,_)=>some x | none=>none) | none=>none)=some x):evD Γ f args=some x:=by
 cases hn:evN Γ n f args [] with
 | none=>rw[hn] at h;cases h
 | some r=>
  rw[hn] at h
  obtain⟨v,H⟩:=r
  unfold evD
  rw[ZDE n hn,ZnX]
  exact h
theorem Zah {S R β:Type}{step:S→Option (S⊕R)}{G:S→Option β} (x:R→β)
  (h:∀(s:S) (rec:S→Option R),(∀s r,rec s=some r→G s=some (x r))→ZN (step s) (fun t rhs=>(match t with | .inl s'=>∀r,rec s'=some r→rhs=some (x r) | .inr r=>rhs=some (x r))) (G s)):∀s r,lp step s=some r→G s=some (x r):=by
 intro s r hr
 obtain⟨n,hn⟩:=ZA3 hr
 clear hr
 induction n generalizing s r with
 | zero=>cases hn
 | succ n ih=>
  unfold lpN at hn
  cases hs:step s with
  | none=>rw[hs] at hn;cases hn
  | some t=>
   rw[hs] at hn
   have:=h s (lpN step n) ih t hs
   cases t with
   | inl s'=>exact this r hn
   | inr r'=>cases hn;exact this
theorem Zd {S R β:Type}{G:Option β}{rec:S→Option R}{x:R→β}{s':S} (h:∀r,rec s'=some r→G=some (x r)):ZN (some (Sum.inl s')) (fun(t:S⊕R) (rhs:Option β)=>(match t with | .inl s'=>∀r,rec s'=some r→rhs=some (x r) | .inr r=>rhs=some (x r))) (bnd G some):=by
 intro a ha
 cases ha
 intro r hr
 rw[Zvw]
 exact h r hr
theorem ZBK {Γ:Ctx}{f:Nat}{args:List V} (h:evD Γ f args=some (.bool true)):∃H',evW Γ f args []=some (.d (.bool true),H'):=by
 unfold evD at h
 rw[Zho] at h
 cases he:evW Γ f args [] with
 | none=>rw[he] at h;cases h
 | some r=>
  obtain⟨v,H⟩:=r
  rw[he] at h
  refine⟨H,?_⟩
  dsimp only at h
  cases hf:fr H 6 v with
  | none=>rw[hf] at h;cases h
  | some q=>
   obtain⟨x,ks⟩:=q
   rw[hf] at h
   cases h
   unfold fr at hf
   split at hf
   ·rename_i x
    split at hf
    ·rename_i ts
     cases he:Zw9 ts<;>rw[he] at hf<;>cases hf
    ·rename_i y hy
     cases he:x.esc<;>rw[he] at hf<;>cases hf
     rfl
   all_goals
    first
    | cases hf
    | (split at hf<;>first | cases hf | (rename_i sz' xs _;revert hf;cases Nat.beq _ sz'<;>intro hf<;>cases hf) | skip)
   all_goals
    rename_i l ks _
    first
    | (cases he:D.escs l<;>rw[he] at hf<;>cases hf)
    | cases hf
theorem Zqx {α β:Type}{A B:Option α}{Q:α→Option β→Prop}{X:Option β} (h:ZN A Q X):ZN (bif true then A else B) Q X:=h
theorem Zq0 {α β:Type}{A B:Option α}{Q:α→Option β→Prop}{X:Option β} (h:ZN B Q X):ZN (bif false then A else B) Q X:=h
abbrev w64 (n:Int):Int:=i64.wrap n
section
variable {γ:Type}
theorem ZK (f:γ→D) (l:List γ):(((List.map f l).length:Nat):Int)=((l.length:Nat):Int):=by rw[List.length_map]
theorem ZuQ (f:γ→D) (z:γ) (n:Int):List.replicate n.toNat (f z)=List.map f (List.replicate n.toNat z):=by rw[List.map_replicate]
theorem Zt3 {α:Type}:∀(l:List α) (i:Nat) (y:α),Zhv l i y=l.set i y
 | [],_,_=>rfl
 | _ :: _,0,_=>rfl
 | x :: l,i+1,y=>congrArg (x :: ·) (Zt3 l i y)
theorem ZZ (f:γ→D) (l:List γ) (i:Nat) (y:γ):Zhv (List.map f l) i (f y)=List.map f (List.set l i y):=by rw[Zt3,List.map_set]
theorem Zfc (f:γ→D) (l m:List γ):List.map f l++List.map f m=List.map f (l++m):=by rw[List.map_append]
theorem Zfd (f:γ→D) (l:List γ) (n:Nat):Nat.ble ((List.map f l).length+n) lim=Nat.ble (l.length+n) lim:=by rw[List.length_map]
theorem Zl9 (f:γ→D) (l:List γ):Nat.ble (List.map f l).length lim=Nat.ble l.length lim:=by rw[List.length_map]
theorem ZEU (f:γ→D) (l:List γ) (o n:Nat):List.take n (List.drop o (List.map f l))=List.map f (List.take n (List.drop o l)):=by rw[← List.map_drop,← List.map_take]
theorem Zu3 (f:γ→D) (l:List γ) (hi:Nat):List.take (hi-0) (List.drop 0 (List.map f l))=List.map f (List.take hi l):=by rw[ZEU];rfl
theorem ZAn (f:γ→D) (l:List γ) (hi:Nat):(Nat.ble 0 hi&&Nat.ble hi (List.map f l).length)=Nat.ble hi l.length:=by rw[List.length_map];cases hi<;>rfl
end
end Go.Proofs.YtnpidpcmpleiaaaGreatDoorE
