/- StealSched: part 3 of 6 of the proof. -/
import Derived.Test.YtgcfmiajkbbmeaaGreatDoorZStealSchedb
import Derived.KernelRfl
import Derived.ChangeArms
import Derived.Deep.Slices
import Derived.ChangeOld
import Derived.WideShapes
import Derived.FnData
import Derived.MakeChecks
import Derived.LaidMore
import Derived.OpenShut
set_option maxRecDepth 100000
set_option maxHeartbeats 40000000
set_option linter.unusedVariables false
set_option linter.unusedSimpArgs false
namespace Go.Proofs.YtgcfmiajkbbmeaaGreatDoorE
open Go
open Go.IntKind (u64 i64 u32 i32 u8)
def Za1 (p:Op1):Nat:=match p.eff with | 0=>bif ZxE p.op then 0 else bif ZwR p.op then 1 else 2 | 1=>1 | 3=>3 | _=>4
def ZuW (p:Op1):Bool:=match p.eff with | 3=>(match p.op with | .store _ _ _=>true | .storek _ _ _ _=>true | .append _ _ _=>true | _=>false) | _=>true
def ZuE (p:Op1):Bool:=match p.eff with | 1=>(match p.op,p.guard with | .load _ _ (.t _),none=>true | _,_=>false) | _=>true
def Zul:List Opd→Nat→Bool
  | [],_=>false
  | .t i :: l,s=>Nat.beq i s || Zul l s
  | _ :: l,s=>Zul l s
def Zy6 (p q:Op1):Bool:=match p.op,q.op with | .callk _ _ chk,.load 1 false (.t s)=>Zul chk s | .storek _ _ _ chk,.load _ _ (.t s)=>Zul chk s | _,_=>false
def ZAb:Opd→Option Nat
  | .t i=>some i
  | .c _=>none
def Zdt (p:Op1):List Nat:=(ZvV p.op).filterMap ZAb++(match p.guard with | some (s,_)=>[s] | none=>[])
structure Row where
  p:Op1
  c:Nat
  s:List Nat
  b:Nat
def Zu4 (i:Nat) (p:Row) (j:Nat) (q:Row):Bool:=
  Nat.ble p.c 2 || (Nat.beq i j || (tb q.b i || (tb p.b j || (Nat.beq q.c 0 || ((Nat.beq q.c 1&&(Nat.beq p.c 3 && !(Nat.beq q.p.eff 1))) || (Nat.beq q.p.eff 1&&(Nat.blt j i&&Zy6 p.p q.p)))))))
def ZBX (p q:Op1):Bool:=match p.dst,q.dst with | some a,some b=>!(Nat.beq a b) | _,_=>true
def Zpy (i:Nat) (p q:Row):Bool:=ZBX p.p q.p&&(Nat.ble 3 q.c || (tb q.b i || ZiD q.p.mask i))
def ZsE (i:Nat) (p:Row) (j:Nat) (q:Row):Bool:=match p.p.dst with | some d=>tb q.b i || (!(ZiD q.s d) || (tb p.b j || Nat.beq i j)) | none=>true
def Zu8 (i:Nat) (p:Row) (j:Nat) (q:Row):Bool:=!(Nat.beq q.p.eff 1) || (Nat.blt i j || (match p.p.dst with | some d=>!(ZiD q.s d) | none=>true))
def Zxc {α:Type} (f:Nat→α→Bool):Nat→List α→Bool
  | _,[]=>true
  | i,a :: l=>f i a&&Zxc f (i+1) l
theorem ZhQ {α:Type}{f:Nat→α→Bool}:∀(l:List α) (k:Nat),Zxc f k l=true→∀(i:Nat) a,l[i]? = some a→f (k+i) a=true
  | [],k,_,i,a,h=>by simp at h
  | x :: l,k,hk,i,a,h=>by
    simp only[Zxc,Bool.and_eq_true] at hk
    cases i with
    | zero=>simp at h;subst h;exact hk.1
    | succ i=>
      have:=ZhQ l (k+1) hk.2 i a (by simpa using h)
      rwa [show k+1+i=k+(i+1) by omega] at this
def ZpH:List Op1→List Nat→List Row
  | p :: l,b :: bs=>⟨p,Za1 p,Zdt p,b⟩ :: ZpH l bs
  | _,_=>[]
theorem Zk7:∀(l:List Op1) (bs:List Nat) (j:Nat) (p:Op1) (b:Nat),l[j]? = some p→bs[j]? = some b→(ZpH l bs)[j]? = some ⟨p,Za1 p,Zdt p,b⟩
  | [],bs,j,p,b,h,_=>by simp at h
  | _ :: _,[],j,p,b,_,h=>by simp at h
  | x :: l,y :: bs,0,p,b,h1,h2=>by simp at h1 h2;subst h1;subst h2;rfl
  | x :: l,y :: bs,j+1,p,b,h1,h2=>by simpa [ZpH] using Zk7 l bs j p b (by simpa using h1) (by simpa using h2)
def Zs (P:Program) (G:Zbv) (N:Nat) (os:Array Oper) (l:List Op1):Bool:=
  P.follows .mixedOrders&&(ZlN P G N os os.toList l&&(Zxc (fun j o=>(Zn8 o).all fun i=>Nat.blt i j) 0 os.toList &&
    (let rows:=ZpH l (Znl os.toList)
     Zxc (fun j q=>(ZuW q.p&&(ZuE q.p&&(Nat.ble q.c 2 || q.p.mask.isEmpty)))&&Zxc (fun i p=>Zu4 i p j q&&(ZsE i p j q&&(Zu8 i p j q&&(!(Nat.blt i j) || Zpy i p q)))) 0 rows) 0 rows)))
structure Chk (P:Program) (G:Zbv) (N:Nat) (os:Array Oper) (l:List Op1) (B:Nat→Nat→Prop):Prop where
  mixed:P.follows .mixedOrders=true
  oper:∀(j:Nat) o p,os[j]? = some o→l[j]? = some p→Zm4 P G N os o p=true
  len:os.size=l.length
  pre:∀(j:Nat) o,os[j]? = some o→∀i∈Zn8 o,i<j
  bef:∀(j:Nat) o k,os[j]? = some o→B k j→∃i∈Zn8 o,k=i∨(i<j∧B k i)
  pair:∀(i j:Nat) p q,l[i]? = some p→l[j]? = some q→3≤Za1 p→i=j∨B i j∨B j i∨Za1 q=0∨(Za1 q=1∧Za1 p=3∧q.eff≠1)∨(q.eff=1∧j<i∧Zy6 p q=true)
  dst:∀(i j:Nat) p q d,l[i]? = some p→l[j]? = some q→p.dst=some d→q.dst=some d→i=j
  early:∀(i j:Nat) p q,l[i]? = some p→l[j]? = some q→i<j→3≤Za1 q∨B i j∨i∈q.mask
  reads:∀(i j:Nat) p q d,l[i]? = some p→l[j]? = some q→p.dst=some d→d∈Zdt q→B i j∨B j i∨i=j
  eff3:∀(j:Nat) q,l[j]? = some q→ZuW q=true
  mask:∀(j:Nat) q,l[j]? = some q→3≤Za1 q→q.mask=[]
  eff1:∀(j:Nat) q,l[j]? = some q→ZuE q=true
  stay:∀(i j:Nat) p q d,l[i]? = some p→l[j]? = some q→q.eff=1→j≤i→p.dst=some d→¬d∈Zdt q
theorem ZnK:∀(l:List Nat) (b:Nat),ZiD l b=true↔b∈l
  | [],b=>by simp[ZiD]
  | a :: l,b=>by
    simp only[ZiD]
    cases h:Nat.beq a b with
    | true=>obtain rfl:=Nat.eq_of_beq_eq_true h;simp
    | false=>
      have hne:¬b=a:=fun h'=>by subst h';rw[Nat.beq_refl] at h;cases h
      simp[ZnK l b,hne]
theorem ZrM {P:Program}{G:Zbv}{N:Nat}{ops:Array Oper}:∀(os:List Oper) (l:List Op1),ZlN P G N ops os l=true→os.length=l.length∧∀(j:Nat) o p,os[j]? = some o→l[j]? = some p→Zm4 P G N ops o p=true
  | [],[],_=>⟨rfl,fun j o p h=>by simp at h⟩
  | [],_ :: _,h=>by cases h
  | _ :: _,[],h=>by cases h
  | o :: os,p :: l,h=>by
    simp only[ZlN,Bool.and_eq_true] at h
    obtain⟨h1,h2⟩:=ZrM os l h.2
    refine⟨by simp[h1],fun j o' p' ho hp=>?_⟩
    cases j with
    | zero=>simp at ho hp;subst ho;subst hp;exact h.1
    | succ j=>exact h2 j o' p' (by simpa using ho) (by simpa using hp)
theorem Zvg {P:Program}{G:Zbv}{N:Nat}{os:Array Oper}{l:List Op1} (h:Zs P G N os l=true):∃B,Chk P G N os l B:=by
  unfold Zs at h
  simp only[Bool.and_eq_true] at h
  obtain⟨h1,h2,h3,h4⟩:=h
  obtain⟨l1,l2⟩:=ZrM _ _ h2
  have bl:(Znl os.toList).length=l.length:=by
    have:=(ZlH os.toList []).1
    rw[show ZjX [] os.toList=Znl os.toList from rfl] at this
    rw[this,l1];simp
  have row:∀(j:Nat) p,l[j]? = some p→∃b,(Znl os.toList)[j]? = some b∧(ZpH l (Znl os.toList))[j]? = some ⟨p,Za1 p,Zdt p,b⟩:=fun j p hp=>by
    have hj:=(List.getElem?_eq_some_iff.1 hp).1
    refine⟨(Znl os.toList)[j]'(by omega),List.getElem?_eq_getElem (by omega),Zk7 _ _ _ _ _ hp (List.getElem?_eq_getElem (by omega))⟩
  have pairs:∀(i j:Nat) p q bp bq,l[i]? = some p→l[j]? = some q→(Znl os.toList)[i]? = some bp→(Znl os.toList)[j]? = some bq →
      Zu4 i ⟨p,Za1 p,Zdt p,bp⟩ j ⟨q,Za1 q,Zdt q,bq⟩=true∧ZsE i ⟨p,Za1 p,Zdt p,bp⟩ j ⟨q,Za1 q,Zdt q,bq⟩=true∧Zu8 i ⟨p,Za1 p,Zdt p,bp⟩ j ⟨q,Za1 q,Zdt q,bq⟩=true∧(i<j→Zpy i ⟨p,Za1 p,Zdt p,bp⟩ ⟨q,Za1 q,Zdt q,bq⟩=true):=fun i j p q bp bq hp hq e1 e2=>by
    have a1:=ZhQ _ _ h4 j _ (Zk7 _ _ _ _ _ hq e2)
    simp only[Bool.and_eq_true,Nat.zero_add] at a1
    have a2:=ZhQ _ _ a1.2 i _ (Zk7 _ _ _ _ _ hp e1)
    simp only[Bool.and_eq_true,Nat.zero_add,Bool.or_eq_true,Bool.not_eq_true'] at a2
    refine⟨a2.1,a2.2.1,a2.2.2.1,fun hij=>?_⟩
    rcases a2.2.2.2 with a3 | a3
    · rw[show Nat.blt i j=Nat.ble (i+1) j from rfl,Nat.ble_eq_true_of_le hij] at a3;cases a3
    · exact a3
  refine⟨fun i j=>∃b,(Znl os.toList)[j]? = some b∧tb b i=true,h1,fun j o p ho hp=>l2 j o p (by simpa using ho) hp,by simpa using l1,fun j o ho i hi=>?_,fun j o k ho ⟨b,e1,e2⟩=>?_,fun i j p q hp hq hc=>?_,fun i j p q d hp hq hd hd'=>?_,fun i j p q hp hq hij=>?_,fun i j p q d hp hq hd hs=>?_,fun j q hq=>?_,fun j q hq hc=>?_,fun j q hq=>?_,fun i j p q d hp hq he hij hd=>?_⟩
  · have a1:=ZhQ _ _ h3 j o (by simpa using ho)
    simp only[List.all_eq_true,Nat.zero_add] at a1
    have:=a1 i hi
    simp[Nat.blt] at this;omega
  · obtain⟨i,f1,f2⟩:=Zxn (by simpa using ho) e1 e2
    exact⟨i,f1,f2⟩
  · obtain⟨bp,e1,_⟩:=row i p hp
    obtain⟨bq,e2,_⟩:=row j q hq
    have a:=(pairs i j p q bp bq hp hq e1 e2).1
    simp only[Zu4,Bool.or_eq_true,Bool.and_eq_true,Nat.ble_eq] at a
    rcases a with a | a | a | a | a | a
    · omega
    · exact .inl (Nat.eq_of_beq_eq_true a)
    · exact .inr (.inl ⟨bq,e2,a⟩)
    · exact .inr (.inr (.inl ⟨bp,e1,a⟩))
    · exact .inr (.inr (.inr (.inl (Nat.eq_of_beq_eq_true a))))
    · rcases a with a | a
      · refine .inr (.inr (.inr (.inr (.inl ⟨Nat.eq_of_beq_eq_true a.1,Nat.eq_of_beq_eq_true a.2.1,fun h=>?_⟩))))
        rw[h] at a
        exact absurd a.2.2 (by decide)
      · refine .inr (.inr (.inr (.inr (.inr ⟨Nat.eq_of_beq_eq_true a.1,?_,a.2.2⟩))))
        have:=a.2.1
        simp[Nat.blt] at this;omega
  · obtain⟨bp,e1,_⟩:=row i p hp
    obtain⟨bq,e2,_⟩:=row j q hq
    have key:∀(i j:Nat) p q bp bq,l[i]? = some p→l[j]? = some q→(Znl os.toList)[i]? = some bp→(Znl os.toList)[j]? = some bq→p.dst=some d→q.dst=some d→¬i<j:=fun i j p q bp bq hp hq e1 e2 hd hd' hlt=>by
      have a:=(pairs i j p q bp bq hp hq e1 e2).2.2.2 hlt
      simp[Zpy,ZBX,hd,hd'] at a
    have k1:=key i j p q bp bq hp hq e1 e2 hd hd'
    have k2:=key j i q p bq bp hq hp e2 e1 hd' hd
    omega
  · obtain⟨bp,e1,_⟩:=row i p hp
    obtain⟨bq,e2,_⟩:=row j q hq
    have a:=(pairs i j p q bp bq hp hq e1 e2).2.2.2 hij
    simp only[Zpy,Bool.or_eq_true,Bool.and_eq_true,Nat.ble_eq] at a
    rcases a.2 with a | a | a
    · exact .inl a
    · exact .inr (.inl ⟨bq,e2,a⟩)
    · exact .inr (.inr ((ZnK _ _).1 a))
  · obtain⟨bp,e1,_⟩:=row i p hp
    obtain⟨bq,e2,_⟩:=row j q hq
    have a:=(pairs i j p q bp bq hp hq e1 e2).2.1
    simp only[ZsE,hd,Bool.or_eq_true,Bool.not_eq_true'] at a
    rcases a with a | a | a | a
    · exact .inl ⟨bq,e2,a⟩
    · rw[(ZnK _ _).2 hs] at a;cases a
    · exact .inr (.inl ⟨bp,e1,a⟩)
    · exact .inr (.inr (Nat.eq_of_beq_eq_true a))
  · obtain⟨bq,e2,e3⟩:=row j q hq
    have a1:=ZhQ _ _ h4 j _ e3
    simp only[Bool.and_eq_true] at a1
    exact a1.1.1
  · obtain⟨bq,e2,e3⟩:=row j q hq
    have a1:=ZhQ _ _ h4 j _ e3
    simp only[Bool.and_eq_true,Bool.or_eq_true,Nat.ble_eq,List.isEmpty_iff] at a1
    rcases a1.1.2.2 with a2 | a2
    · omega
    · exact a2
  · obtain⟨bq,e2,e3⟩:=row j q hq
    have a1:=ZhQ _ _ h4 j _ e3
    simp only[Bool.and_eq_true] at a1
    exact a1.1.2.1
  · obtain⟨bp,e1,_⟩:=row i p hp
    obtain⟨bq,e2,_⟩:=row j q hq
    have a:=(pairs i j p q bp bq hp hq e1 e2).2.2.1
    simp only[Zu8,hd,he,Nat.beq_refl,Bool.not_true,Bool.false_or,Bool.or_eq_true,Bool.not_eq_true'] at a
    intro hs
    rcases a with a | a
    · simp[Nat.blt] at a;omega
    · rw[(ZnK _ _).2 hs] at a;cases a
theorem Zsl:∀(n:Nat) (H:Zh) (b i:Nat) (blk:Blk),(Zy5 H b n)[i]? = some blk→blk ≠ .dead→H[i]? = some blk∧¬(b≤i∧i<b+n)
  | 0,H,b,i,blk,h,_=>⟨h,by omega⟩
  | n+1,H,b,i,blk,h,hd=>by
    obtain⟨h1,h2⟩:=Zsl n _ _ i blk h hd
    rw[ZbS,List.getElem?_set] at h1
    by_cases hbi:b=i
    · rw[if_pos hbi] at h1
      split at h1
      · cases h1;exact absurd rfl hd
      · cases h1
    · rw[if_neg hbi] at h1
      exact⟨h1,by omega⟩
theorem ZoB (pos:List (Nat×Nat)):∀(mask:List Nat) (H:Zh) (i:Nat) (blk:Blk),(Zhx H pos mask)[i]? = some blk→blk ≠ .dead→H[i]? = some blk∧∀m∈mask,∀b n,pos[m]? = some (b,n)→¬(b≤i∧i<b+n)
  | [],H,i,blk,h,_=>⟨h,by simp⟩
  | m :: mask,H,i,blk,h,hd=>by
    simp only[Zhx] at h
    rw[Z6] at h
    cases hp:pos[m]? with
    | none=>
      rw[hp] at h
      obtain⟨h1,h2⟩:=ZoB pos mask H i blk h hd
      refine⟨h1,fun k hk b n hb=>?_⟩
      rcases List.mem_cons.1 hk with rfl | hk
      · rw[hp] at hb;cases hb
      · exact h2 k hk b n hb
    | some q=>
      obtain⟨b0,n0⟩:=q
      rw[hp] at h
      obtain⟨h1,h2⟩:=ZoB pos mask _ i blk h hd
      obtain⟨h3,h4⟩:=Zsl n0 H b0 i blk h1 hd
      refine⟨h3,fun k hk b n hb=>?_⟩
      rcases List.mem_cons.1 hk with rfl | hk
      · rw[hp] at hb;cases hb;exact h4
      · exact h2 k hk b n hb
theorem Blk.like_symm {a b:Blk} (h:a.like b):b.like a:=by
  cases a<;>cases b<;>simp_all [Blk.like]
theorem Ztp {Γ:Ctx}{cf:Zbw}{e:Env}{nid:Nat}{H:Zh}{op:O}{v:V}{up:List (Nat×Blk)}{nw:List Blk} (hc:ZxE op=true∨ZwR op=true) (h:opE Γ cf e nid H op=some (v,up,nw)):nw=[]:=by
  have key:∀(x:Option V),(match x with | some v=>ZcR v | none=>none)=some (v,up,nw)→nw=[]:=fun x h=>by
    cases x with
    | none=>cases h
    | some y=>exact(Zau h).2.2
  have keyD:∀(x:Option D),(match x with | some r=>ZcR (.d r) | none=>none)=some (v,up,nw)→nw=[]:=fun x h=>by
    cases x with
    | none=>cases h
    | some y=>exact(Zau h).2.2
  cases op<;>first | (rcases hc with hc | hc<;>cases hc;done) | skip
  case mov x=>exact(Zau h).2.2
  case mkfn f caps=>exact(Zau h).2.2
  case bslice sz z len ps=>
    cases len with
    | zero=>simp only[opE] at h;split at h<;>first | exact(Zau h).2.2 | (cases h;done) | skip
    | succ n=>rcases hc with hc | hc<;>cases hc
  case build z ps=>simp only[opE] at h;split at h<;>first | exact(Zau h).2.2 | cases h
  case pick c a b=>simp only[opE] at h;split at h<;>first | exact(Zau h).2.2 | cases h
  case conv k x=>simp only[opE] at h;split at h<;>first | exact(Zau h).2.2 | cases h
  case eqv ks neg x y=>
    simp only[opE] at h
    split at h
    · split at h
      · split at h
        · exact(Zau h).2.2
        · cases h
      · cases h
    · cases h
  case field off n ag x=>
    simp only[opE] at h
    split at h
    · exact key _ h
    · exact key _ h
    · cases h
  case extract x i=>
    simp only[opE] at h
    split at h
    · exact key _ h
    · split at h<;>first | exact(Zau h).2.2 | cases h
    · cases h
  all_goals (simp only[opE] at h;first | exact key _ h | exact keyD _ h)
theorem ZxC {Γ:Ctx}{cf:Zbw}{e:Env}{nid:Nat}{H:Zh}{op:O}{v:V}{up:List (Nat×Blk)}{nw:List Blk} (hs:(∃n x y,op = .store n x y∨∃k,op = .storek n x y k)∨∃sz x y,op = .append sz x y) (h:opE Γ cf e nid H op=some (v,up,nw)) (hu:ZpP 3 up nw=true) :
    nw=[]∧(up=[]∨∃b blk old,up=[(b,blk)]∧H[b]? = some old∧old.like blk):=by
  simp only[ZpP,Bool.and_eq_true,List.isEmpty_iff] at hu
  obtain⟨hu,rfl⟩:=hu
  refine⟨rfl,?_⟩
  rcases hs with⟨n,x,y,hs⟩ | ⟨sz,x,y,rfl⟩
  · have h:ZkZ H n (x.val e) (y.val e)=some (v,up,[]):=by rcases hs with rfl | ⟨k,rfl⟩<;>exact h
    unfold ZkZ at h
    split at h
    · rename_i b o _
      split at h
      · rename_i cs hb
        cases hc:(Nat.beq (y.val e).cells.length n&&Nat.ble (o+n) cs.length&&(y.val e).okb&&Zsr (y.val e).cells) with
        | false=>rw[hc] at h;cases h
        | true=>
          rw[hc] at h
          simp only[cond_true,Option.some.injEq,Prod.mk.injEq] at h
          obtain⟨rfl,rfl,_⟩:=h
          exact .inr ⟨_,_,.cells cs,rfl,by rw[← Z6];exact hb,trivial⟩
      · cases h
    · rename_i b sz i k _
      split at h
      · rename_i sz' xs hb
        cases hq:Nat.beq sz sz' with
        | false=>rw[hq] at h;cases h
        | true=>
          obtain rfl:=Nat.eq_of_beq_eq_true hq
          rw[hq] at h
          simp only[cond_true] at h
          split at h
          · rename_i x0 y0 ks h1 h2
            cases he:ZiD ks b with
            | true=>rw[he] at h;cases h
            | false=>
              rw[he] at h
              simp only[cond_false] at h
              cases hc:(Nat.beq y0.cells.length n&&Nat.ble (k+n) x0.cells.length&&(V.d y0).okb&&(x0.isAgg || !y0.isAgg)) with
              | false=>rw[hc] at h;cases h
              | true=>
                rw[hc] at h
                simp only[cond_true,Option.some.injEq,Prod.mk.injEq] at h
                obtain⟨rfl,rfl,_⟩:=h
                cases ks with
                | nil=>exact .inr ⟨_,_,.arr sz xs,rfl,by rw[← Z6];exact hb,rfl,by rw[ZbS];simp⟩
                | cons a r=>simp[Zuy] at hu
          · cases h
      · cases h
    · cases h
  · simp only[opE] at h
    unfold Zh3 at h
    split at h
    · cases h
    · rename_i ys hy
      cases hz:ZjS sz ys 0 with
      | false=>rw[hz] at h;cases h
      | true=>
        rw[hz] at h
        simp only[cond_true] at h
        split at h
        · cases hl:Nat.ble ys.length lim with
          | false=>rw[hl] at h;cases h
          | true=>rw[hl] at h;cases h
        · rename_i b sz' _
          split at h
          · rename_i sz'' xs hb
            cases hc:(Nat.beq sz sz'&&Nat.beq sz sz'') with
            | false=>rw[hc] at h;cases h
            | true=>
              rw[hc] at h
              simp only[cond_true] at h
              cases hl:Nat.ble (xs.length+ys.length) lim with
              | false=>rw[hl] at h;cases h
              | true=>rw[hl] at h;cases h
          · cases h
        · rename_i b sz' o len _
          split at h
          · rename_i sz'' xs hb
            cases hc:(Nat.beq sz sz'&&Nat.beq sz sz''&&Nat.ble (o+len+ys.length) xs.length) with
            | false=>rw[hc] at h;cases h
            | true=>
              rw[hc] at h
              simp only[cond_true,Option.some.injEq,Prod.mk.injEq] at h
              obtain⟨rfl,rfl,_⟩:=h
              simp only[Bool.and_eq_true,Nat.ble_eq] at hc
              obtain⟨⟨c1,c2⟩,c3⟩:=hc
              refine .inr ⟨_,_,.arr sz'' xs,rfl,by rw[← Z6];exact hb,(Nat.eq_of_beq_eq_true c2).symm,?_⟩
              simp only[List.length_append,List.length_take,List.length_drop]
              omega
          · cases h
        · cases h
theorem Zn2 {e:Env}{H:Zh}{o:Op1}{up:List (Nat×Blk)}{nw:List Blk} (h:ZpJ e H o up nw=true):ZpP o.eff up nw=true∧ZEU e H up o.op=true:=by
  unfold ZpJ at h
  rwa [Bool.and_eq_true] at h
def ZcF.len (t:ZcF) (j:Nat):Nat:=(t.HH j).length
theorem Zoi {p:Op1}:(Za1 p≤2↔(p.eff=0∨p.eff=1))∧(Za1 p=3↔p.eff=3):=by
  unfold Za1
  split
  · rename_i h
    rw[h]
    cases ZxE p.op<;>cases ZwR p.op<;>simp
  · rename_i h;rw[h];simp
  · rename_i h;rw[h];simp
  · rename_i h0 h1 h3
    constructor
    · simp;exact⟨h0,h1⟩
    · simp;exact h3
theorem ZtR {p:Op1} (h:p.eff=1):Za1 p=1:=by unfold Za1;simp only[h]
theorem Zr0 {p:Op1} (h:Za1 p≤1):(Za1 p=0∧ZxE p.op=true)∨(Za1 p=1∧ZwR p.op=true∧p.eff≠1)∨(Za1 p=1∧p.eff=1):=by
  rcases(Zoi (p:=p)).1.1 (by omega) with h0 | h0
  · unfold Za1 at h ⊢
    rw[h0] at h ⊢
    cases h1:ZxE p.op<;>cases h2:ZwR p.op<;>simp_all
  · exact .inr (.inr ⟨ZtR h0,h0⟩)
def ZAB:V→Option Nat
  | .ptr b _=>some b
  | .eptr b _ _ _=>some b
  | _=>none
theorem Zl3 {H H':Zh}{n:Nat}{ag:Bool}{x v:V} (h:Zdq H n ag x=some v) (hs:∀b,ZAB x=some b→∀blk,H[b]? = some blk→blk ≠ .dead→H'[b]? = some blk):Zdq H' n ag x=some v:=by
  cases x<;>try exact h
  · rename_i d
    cases d<;>exact h
  · rename_i b o
    unfold Zdq at h ⊢
    simp only[Z6] at h ⊢
    cases hb:H[b]? with
    | none=>rw[hb] at h;cases h
    | some blk=>
      rw[hb] at h
      cases blk<;>try (cases h;done)
      rw[hs b rfl _ hb (by simp)];exact h
  · rename_i b sz i k
    unfold Zdq at h ⊢
    simp only[Z6] at h ⊢
    cases hb:H[b]? with
    | none=>rw[hb] at h;cases h
    | some blk=>
      rw[hb] at h
      cases blk<;>try (cases h;done)
      rw[hs b rfl _ hb (by simp)];exact h
theorem Zw0 {H:Zh}{n:Nat}{ag:Bool}{x v:V}{b:Nat} (h:Zdq H n ag x=some v) (hx:ZAB x=some b):∃blk,H[b]? = some blk∧blk ≠ .dead:=by
  cases x<;>try (cases hx;done)
  · rename_i b' o
    cases hx
    unfold Zdq at h
    simp only[Z6] at h
    cases hb:H[b]? with
    | none=>rw[hb] at h;cases h
    | some blk=>
      rw[hb] at h
      cases blk<;>try (cases h;done)
      exact⟨_,rfl,by simp⟩
  · rename_i b' sz i k
    cases hx
    unfold Zdq at h
    simp only[Z6] at h
    cases hb:H[b]? with
    | none=>rw[hb] at h;cases h
    | some blk=>
      rw[hb] at h
      cases blk<;>try (cases h;done)
      exact⟨_,rfl,by simp⟩
theorem Ztv:∀{up:List (Nat×Blk)}{H:Zh}{b:Nat},ZoR up b=false→(Zdh H up)[b]? = H[b]?
  | [],_,_,_=>rfl
  | (a,blk) :: r,H,b,h=>by
    simp only[ZoR] at h
    cases hb:Nat.beq a b with
    | true=>rw[hb] at h;cases h
    | false=>
      rw[hb] at h
      show(Zdh (Zf7 H a blk) r)[b]? = _
      rw[Ztv (up:=r) h,ZbS,List.getElem?_set_ne (fun e=>by subst e;rw[Nat.beq_refl] at hb;cases hb)]
theorem ZpX {e:Env}{up:List (Nat×Blk)}{s:Nat}:∀{l:List Opd},Zoo e up l=true→Zul l s=true→∀b,ZAB (e s)=some b→ZoR up b=false
  | [],_,hs=>by cases hs
  | .c v :: l,h,hs=>by
    simp only[Zoo,Bool.and_eq_true] at h
    exact ZpX (l:=l) h.2 hs
  | .t i :: l,h,hs=>by
    simp only[Zoo,Bool.and_eq_true] at h
    simp only[Zul,Bool.or_eq_true] at hs
    rcases hs with hs | hs
    · obtain rfl:=Nat.eq_of_beq_eq_true hs
      have h1:=h.1
      intro b hb
      change (match e i with
        | .ptr b _=>!(ZoR up b)
        | .eptr b _ _ _=>!(ZoR up b)
        | .d _=>true
        | _=>false)=true at h1
      cases hx:e i<;>rw[hx] at h1 hb<;>simp only[ZAB,Option.some.injEq] at hb<;>first | (subst hb;simpa using h1) | cases hb
    · exact ZpX (l:=l) h.2 hs
theorem ZuC {e:Env}{H H':Zh}{s:Nat}:∀{l:List Opd},Zxa e H H' l=true→Zul l s=true→∃i,Zdq H 1 false (e s)=some (.mp i)∧Zdq H' 1 false (e s)=some (.mp i)
  | [],_,hs=>by cases hs
  | .c v :: l,h,hs=>by
    simp only[Zxa,Bool.and_eq_true] at h
    exact ZuC (l:=l) h.2 hs
  | .t i :: l,h,hs=>by
    simp only[Zxa,Bool.and_eq_true] at h
    simp only[Zul,Bool.or_eq_true] at hs
    rcases hs with hs | hs
    · obtain rfl:=Nat.eq_of_beq_eq_true hs
      have h1:=h.1
      change (match e i with
        | .ptr b o=>(match Zdq H 1 false (.ptr b o),Zdq H' 1 false (.ptr b o) with | some (.mp i),some (.mp j)=>Nat.beq i j | _,_=>false)
        | _=>false)=true at h1
      split at h1
      · rename_i b o hx
        rw[hx]
        split at h1
        · rename_i i1 j1 e1 e2
          rw[e1,e2,Nat.eq_of_beq_eq_true h1]
          exact⟨_,rfl,rfl⟩
        · cases h1
      · cases h1
    · exact ZuC (l:=l) h.2 hs
section
variable {P:Program} {G:Zbv} {N:Nat} {Γ:Ctx} {cf:Zbw} {t:ZcF} {l:List Op1} {e:Env} {H:Zh} {e':Env} {H':Zh} {os:Array Oper} {B:Nat→Nat→Prop} {D:Nat→Bool}
theorem ZcF.OK.len_succ (ht:t.OK Γ cf [] l e H e' H') {j:Nat} (hj:j<l.length):t.len (j+1)=t.len j+(t.NW j).length:=by
  unfold ZcF.len
  rw[ht.h j _ (List.getElem?_eq_getElem hj),List.length_append,ZlM]
theorem ZcF.OK.len_mono (ht:t.OK Γ cf [] l e H e' H') {a:Nat}:∀(b:Nat),a≤b→b≤l.length→t.len a≤t.len b:=by
  intro b
  induction b with
  | zero => intro h _; have : a = 0 := by omega
            subst this;exact Nat.le_refl _
  | succ b ih=>
    intro h hb
    by_cases hab:a=b+1
    · subst hab;exact Nat.le_refl _
    · have h1:=ih (by omega) (by omega)
      have h2:=ht.len_succ (j:=b) (by omega)
      omega
theorem ZcF.OK.whose (ht:t.OK Γ cf [] l e H e' H') {a i:Nat}:∀(b:Nat),a≤b→b≤l.length→t.len a≤i→i<t.len b→∃j,a≤j∧j<b∧t.len j≤i∧i<t.len (j+1):=by
  intro b
  induction b with
  | zero => intro h _ h1 h2; have : a = 0 := by omega
            subst this;omega
  | succ b ih=>
    intro h hb h1 h2
    by_cases hab:a=b+1
    · subst hab;omega
    · by_cases hi:i<t.len b
      · obtain⟨j,g1,g2,g3⟩:=ih (by omega) (by omega) h1 hi
        exact⟨j,g1,by omega,g3⟩
      · exact⟨b,by omega,by omega,by omega,h2⟩
theorem ZcF.OK.one (ht:t.OK Γ cf [] l e H e' H') {i j k:Nat} (hj:j<l.length) (hk:k<l.length) (h1:t.len j≤i∧i<t.len (j+1)) (h2:t.len k≤i∧i<t.len (k+1)):j=k:=by
  rcases Nat.lt_trichotomy j k with h | h | h
  · have:=ht.len_mono (a:=j+1) k (by omega) (by omega);omega
  · exact h
  · have:=ht.len_mono (a:=k+1) j (by omega) (by omega);omega
theorem ZcF.OK.noUp (ht:t.OK Γ cf [] l e H e' H') {j:Nat}{p:Op1} (hp:l[j]? = some p) (hc:Za1 p≤2):t.UP j=[]:=by
  cases hw:t.W j with
  | false=>exact(ht.n j p hp hw).2.1
  | true=>
    have:=(Zn2 (ht.y j p hp hw).2).1
    rcases(Zoi (p:=p)).1.1 hc with h | h
    · rw[h] at this;simpa [ZpP] using this
    · rw[h] at this
      simp only[ZpP,Bool.and_eq_true,List.isEmpty_iff] at this
      exact this.1
theorem ZcF.OK.noNew (ht:t.OK Γ cf [] l e H e' H') {j:Nat}{p:Op1} (hp:l[j]? = some p) (hc:Za1 p≤1):t.NW j=[]:=by
  cases hw:t.W j with
  | false=>exact(ht.n j p hp hw).2.2
  | true=>
    rcases Zr0 hc with h | h | h
    · exact Ztp (.inl h.2) (ht.y j p hp hw).1
    · exact Ztp (.inr h.2.1) (ht.y j p hp hw).1
    · have:=(Zn2 (ht.y j p hp hw).2).1
      rw[h.2] at this
      simp only[ZpP,Bool.and_eq_true,List.isEmpty_iff] at this
      exact this.2
theorem ZcF.OK.new2 (ht:t.OK Γ cf [] l e H e' H') {i j:Nat}{p:Op1} (hp:l[j]? = some p) (h:t.len j≤i∧i<t.len (j+1)):2≤Za1 p:=by
  have hj:=(List.getElem?_eq_some_iff.1 hp).1
  rcases Nat.lt_or_ge (Za1 p) 2 with h' | h'
  · have:=ht.len_succ hj
    rw[ht.noNew hp (by omega)] at this
    simp at this
    omega
  · exact h'
theorem ZcF.OK.stay1 (ht:t.OK Γ cf [] l e H e' H') {j:Nat}{p:Op1} (hp:l[j]? = some p) (hc:Za1 p≤2):t.HH (j+1)=t.HH j++t.NW j:=by
  rw[ht.h j p hp,ht.noUp hp hc];rfl
theorem ZcF.OK.stay (ht:t.OK Γ cf [] l e H e' H') {a:Nat}:∀(b:Nat),a≤b→b≤l.length→(∀m p,a≤m→m<b→l[m]? = some p→Za1 p≤2)→∀i,i<t.len a→(t.HH b)[i]? = (t.HH a)[i]?:=by
  intro b
  induction b with
  | zero => intro h _ _ i _; have : a = 0 := by omega
            subst this;rfl
  | succ b ih=>
    intro h hb hc i hi
    by_cases hab:a=b+1
    · subst hab;rfl
    · have hp:l[b]? = some (l[b]'(by omega)):=List.getElem?_eq_getElem (by omega)
      have hm:=ht.len_mono (a:=a) b (by omega) (by omega)
      rw[ht.stay1 hp (hc b _ (by omega) (by omega) hp),List.getElem?_append_left (by unfold ZcF.len at *;omega)]
      exact ih (by omega) (by omega) (fun m p h1 h2=>hc m p h1 (by omega)) i hi
theorem ZcF.OK.like1 (ht:t.OK Γ cf [] l e H e' H') (hk:Chk P G N os l B) {j:Nat}{p:Op1} (hp:l[j]? = some p) (hc:Za1 p≤3) {i:Nat} (hi:i<t.len j):∃x y,(t.HH j)[i]? = some x∧(t.HH (j+1))[i]? = some y∧(x=y∨x.like y):=by
  have same:t.UP j=[]→∃x y,(t.HH j)[i]? = some x∧(t.HH (j+1))[i]? = some y∧(x=y∨x.like y):=fun hu=>by
    refine⟨_,_,List.getElem?_eq_getElem hi,?_,.inl rfl⟩
    rw[ht.h j p hp,hu]
    show(t.HH j++t.NW j)[i]? = _
    rw[List.getElem?_append_left hi]
    exact List.getElem?_eq_getElem hi
  rcases Nat.lt_or_ge (Za1 p) 3 with h | h
  · exact same (ht.noUp hp (by omega))
  · have he:=(Zoi (p:=p)).2.1 (by omega)
    cases hw:t.W j with
    | false=>exact same (ht.n j p hp hw).2.1
    | true=>
      obtain⟨y1,y2⟩:=ht.y j p hp hw
      rw[hk.mask j p hp h] at y1
      have y2:=(Zn2 y2).1
      rw[he] at y2
      have hs:(∃n x y,p.op = .store n x y∨∃k,p.op = .storek n x y k)∨∃sz x y,p.op = .append sz x y:=by
        have:=hk.eff3 j p hp
        unfold ZuW at this
        rw[he] at this
        cases hop:p.op<;>rw[hop] at this<;>first | (cases this;done) | exact .inl ⟨_,_,_,.inl rfl⟩ | exact .inl ⟨_,_,_,.inr ⟨_,rfl⟩⟩ | exact .inr ⟨_,_,_,rfl⟩
      obtain⟨f1,f2⟩:=ZxC hs y1 y2
      rcases f2 with f2 | ⟨b,blk,old,f2,f3,f4⟩
      · exact same f2
      · by_cases hbi:b=i
        · subst hbi
          refine⟨old,blk,f3,?_,.inr f4⟩
          rw[ht.h j p hp,f1,f2]
          simp only[Zdh,List.append_nil,ZbS]
          rw[List.getElem?_set,if_pos rfl,if_pos (show b<(t.HH j).length from hi)]
        · refine⟨_,_,List.getElem?_eq_getElem hi,?_,.inl rfl⟩
          rw[ht.h j p hp,f1,f2]
          simp only[Zdh,List.append_nil,ZbS]
          rw[List.getElem?_set,if_neg hbi]
          exact List.getElem?_eq_getElem hi
theorem ZcF.OK.like (ht:t.OK Γ cf [] l e H e' H') (hk:Chk P G N os l B) {a:Nat}:∀(b:Nat),a≤b→b≤l.length→(∀m p,a≤m→m<b→l[m]? = some p→Za1 p≤3)→∀i,i<t.len a→∃x y,(t.HH a)[i]? = some x∧(t.HH b)[i]? = some y∧(x=y∨x.like y):=by
  intro b
  induction b with
  | zero => intro h _ _ i hi; have : a = 0 := by omega
            subst this;exact⟨_,_,List.getElem?_eq_getElem hi,List.getElem?_eq_getElem hi,.inl rfl⟩
  | succ b ih=>
    intro h hb hc i hi
    by_cases hab:a=b+1
    · subst hab;exact⟨_,_,List.getElem?_eq_getElem hi,List.getElem?_eq_getElem hi,.inl rfl⟩
    · have hp:l[b]? = some (l[b]'(by omega)):=List.getElem?_eq_getElem (by omega)
      have hm:=ht.len_mono (a:=a) b (by omega) (by omega)
      obtain⟨x,y,h1,h2,h3⟩:=ih (by omega) (by omega) (fun m p h1 h2=>hc m p h1 (by omega)) i hi
      obtain⟨y',z,g1,g2,g3⟩:=ht.like1 hk hp (hc b _ (by omega) (by omega) hp) (i:=i) (by omega)
      rw[h2] at g1
      cases g1
      refine⟨x,z,h1,g2,?_⟩
      rcases h3 with rfl | h3
      · exact g3
      · rcases g3 with rfl | g3
        · exact .inr h3
        · exact .inr (Blk.like_trans h3 g3)
theorem ZcF.OK.env0 (ht:t.OK Γ cf [] l e H e' H') {x:Nat}:∀(j:Nat),j≤l.length→(∀i p,i<j→l[i]? = some p→p.dst≠some x)→t.E j x=e x:=by
  intro j
  induction j with
  | zero=>intro _ _;rw[ht.e0]
  | succ j ih=>
    intro hj hn
    have hp:l[j]? = some (l[j]'(by omega)):=List.getElem?_eq_getElem (by omega)
    rw[ht.e j _ hp]
    have h1:=hn j _ (by omega) hp
    have h2:=ih (by omega) (fun i p hi=>hn i p (by omega))
    cases hd:(l[j]'(by omega)).dst with
    | none=>exact h2
    | some d=>
      rw[hd] at h1
      show(bif Nat.beq d x then t.VV j else t.E j x)=e x
      have:Nat.beq d x=false:=by
        cases hb:Nat.beq d x with
        | false=>rfl
        | true=>exact absurd (congrArg some (Nat.eq_of_beq_eq_true hb)) h1
      rw[this];exact h2
theorem ZcF.OK.envd (ht:t.OK Γ cf [] l e H e' H') (hk:Chk P G N os l B) {i x:Nat}{p:Op1} (hp:l[i]? = some p) (hd:p.dst=some x):∀(j:Nat),i<j→j≤l.length→t.E j x=t.VV i:=by
  intro j
  induction j with
  | zero=>intro h;omega
  | succ j ih=>
    intro hij hj
    have hq:l[j]? = some (l[j]'(by omega)):=List.getElem?_eq_getElem (by omega)
    rw[ht.e j _ hq]
    by_cases h:i=j
    · subst h
      rw[hp] at hq
      cases hq
      rw[hd]
      show(bif Nat.beq x x then t.VV i else _)=_
      rw[Nat.beq_refl];rfl
    · have h2:=ih (by omega) (by omega)
      cases hd':(l[j]'(by omega)).dst with
      | none=>exact h2
      | some d=>
        show(bif Nat.beq d x then t.VV j else t.E j x)=_
        have:Nat.beq d x=false:=by
          cases hb:Nat.beq d x with
          | false=>rfl
          | true=>
            obtain rfl:=Nat.eq_of_beq_eq_true hb
            exact absurd (hk.dst i j p _ d hp hq hd hd') h
        rw[this];exact h2
theorem ZcF.OK.envs (ht:t.OK Γ cf [] l e H e' H') (hk:Chk P G N os l B) {j x:Nat}{q:Op1} (hq:l[j]? = some q) (he:q.eff=1) (hx:x∈Zdt q):∀(k:Nat),j≤k→k≤l.length→t.E k x=t.E j x:=by
  intro k
  induction k with
  | zero => intro h _; have : j = 0 := by omega
            subst this;rfl
  | succ k ih=>
    intro hjk hk'
    by_cases h:j=k+1
    · subst h;rfl
    · have hp:l[k]? = some (l[k]'(by omega)):=List.getElem?_eq_getElem (by omega)
      have h2:=ih (by omega) (by omega)
      rw[ht.e k _ hp]
      cases hd:(l[k]'(by omega)).dst with
      | none=>exact h2
      | some d=>
        show(bif Nat.beq d x then t.VV k else t.E k x)=_
        have:Nat.beq d x=false:=by
          cases hb:Nat.beq d x with
          | false=>rfl
          | true=>
            obtain rfl:=Nat.eq_of_beq_eq_true hb
            exact absurd hx (hk.stay k j _ q d hp hq he (by omega) hd)
        rw[this];exact h2
theorem Chk.lt (hk:Chk P G N os l B):∀(j i:Nat),j<l.length→B i j→i<j:=by
  intro j
  induction j using Nat.strongRecOn with
  | ind j ih=>
    intro i hj hb
    obtain⟨k,h1,h2⟩:=hk.bef j _ i (Array.getElem?_eq_getElem (by rw[hk.len];exact hj)) hb
    have h3:=hk.pre j _ (Array.getElem?_eq_getElem (by rw[hk.len];exact hj)) k h1
    rcases h2 with rfl | ⟨h4,h5⟩
    · exact h3
    · have:=ih k h4 i (by omega) h5;omega
def Zpn (os:Array Oper) (D:Nat→Bool):Prop:=∀(j:Nat) o,os[j]? = some o→D j=true→∀i∈Zn8 o,D i=true
theorem Chk.down (hk:Chk P G N os l B) (hD:Zpn os D):∀(j i:Nat) o,os[j]? = some o→(∀k∈Zn8 o,D k=true)→B i j→D i=true:=by
  intro j
  induction j using Nat.strongRecOn with
  | ind j ih=>
    intro i o ho hp hb
    obtain⟨k,h1,h2⟩:=hk.bef j o i ho hb
    rcases h2 with rfl | ⟨h4,h5⟩
    · exact hp _ h1
    · have hk':k<os.size:=by
        have:=(Array.getElem?_eq_some_iff.1 ho).1;omega
      exact ih k h4 i _ (Array.getElem?_eq_getElem hk') (fun m hm=>hD k _ (Array.getElem?_eq_getElem hk') (hp k h1) m hm) h5
theorem Chk.downD (hk:Chk P G N os l B) (hD:Zpn os D) {i j:Nat} (hj:j<l.length) (h:D j=true) (hb:B i j):D i=true:=
  hk.down hD j i _ (Array.getElem?_eq_getElem (by rw[hk.len];exact hj)) (hD j _ (Array.getElem?_eq_getElem (by rw[hk.len];exact hj)) h) hb
theorem Chk.order (hk:Chk P G N os l B) {i j:Nat}{p q:Op1} (hp:l[i]? = some p) (hq:l[j]? = some q) (hc:3≤Za1 p) (hc2:2≤Za1 q):i=j∨(i<j∧B i j)∨(j<i∧B j i):=by
  have hi:=(List.getElem?_eq_some_iff.1 hp).1
  have hj:=(List.getElem?_eq_some_iff.1 hq).1
  rcases hk.pair i j p q hp hq hc with h | h | h | h | h | h
  · exact .inl h
  · exact .inr (.inl ⟨hk.lt j i hj h,h⟩)
  · exact .inr (.inr ⟨hk.lt i j hi h,h⟩)
  · omega
  · omega
  · have:=ZtR h.1;omega
def hid (t:ZcF) (D:Nat→Bool) (K i:Nat):Bool:=(List.range K).any fun j=>!(D j)&&(decide (t.len j≤i)&&decide (i<t.len (j+1)))
def ZjB (t:ZcF) (D:Nat→Bool) (K:Nat):Zh:=(t.HH K).mapIdx fun i b=>bif hid t D K i then .dead else b
theorem ZsA {K i:Nat}:hid t D K i=true↔∃j,j<K∧D j=false∧t.len j≤i∧i<t.len (j+1):=by
  unfold hid
  simp[List.any_eq_true]
theorem ZkO {K i:Nat}:hid t D K i=false↔∀j,j<K→t.len j≤i→i<t.len (j+1)→D j=true:=by
  rw[← Bool.not_eq_true,ZsA]
  constructor
  · intro h j h1 h2 h3
    cases hd:D j with
    | true=>rfl
    | false=>exact absurd ⟨j,h1,hd,h2,h3⟩ h
  · rintro h ⟨j,h1,h2,h3,h4⟩
    rw[h j h1 h3 h4] at h2;cases h2
theorem Zme {K i:Nat}:(ZjB t D K)[i]? = ((t.HH K)[i]?).map fun b=>bif hid t D K i then .dead else b:=by
  unfold ZjB
  rw[List.getElem?_mapIdx]
theorem ZuZ {K i:Nat}{blk:Blk} (h:(ZjB t D K)[i]? = some blk) (hd:blk ≠ .dead):(t.HH K)[i]? = some blk∧hid t D K i=false:=by
  rw[Zme] at h
  cases hb:(t.HH K)[i]? with
  | none=>rw[hb] at h;cases h
  | some b=>
    rw[hb] at h
    simp only[Option.map_some,Option.some.injEq] at h
    cases hh:hid t D K i with
    | true=>rw[hh] at h;exact absurd h.symm hd
    | false=>rw[hh] at h;exact⟨by rw[← h];rfl,rfl⟩
theorem ZhP {K i:Nat} (h:hid t D K i=false):(ZjB t D K)[i]? = (t.HH K)[i]?:=by
  rw[Zme,h]
  cases (t.HH K)[i]?<;>rfl
theorem Zz0 (l:List Op1) (a:Nat) (ha:a≤l.length):∃K,a≤K∧K≤l.length∧(∀m p,a≤m→m<K→l[m]? = some p→Za1 p≤2)∧(K<l.length→∃p,l[K]? = some p∧3≤Za1 p):=by
  have key:∀n a,l.length-a=n→a≤l.length→∃K,a≤K∧K≤l.length∧(∀m p,a≤m→m<K→l[m]? = some p→Za1 p≤2)∧(K<l.length→∃p,l[K]? = some p∧3≤Za1 p):=by
    intro n
    induction n with
    | zero=>intro a h1 h2;exact⟨a,Nat.le_refl _,h2,fun m p h3 h4=>by omega,fun h=>by omega⟩
    | succ n ih=>
      intro a h1 h2
      have hp:l[a]? = some (l[a]'(by omega)):=List.getElem?_eq_getElem (by omega)
      rcases Nat.lt_or_ge (Za1 (l[a]'(by omega))) 3 with h | h
      · obtain⟨K,g1,g2,g3,g4⟩:=ih (a+1) (by omega) (by omega)
        refine⟨K,by omega,g2,fun m p h3 h4 h5=>?_,g4⟩
        by_cases hm:m=a
        · subst hm;rw[hp] at h5;cases h5;omega
        · exact g3 m p (by omega) h4 h5
      · exact⟨a,Nat.le_refl _,h2,fun m p h3 h4=>by omega,fun _=>⟨_,hp,h⟩⟩
  exact key _ a rfl ha
end
end Go.Proofs.YtgcfmiajkbbmeaaGreatDoorE
namespace Go.Proofs.YtgcfmiajkbbmeaaGreatDoorE
open Go
open Go.IntKind (u64 i64 u32 i32 u8)
theorem Zt4 {e e':Env}:∀(g:Option (Nat×Bool)),(∀s b,g=some (s,b)→e s=e' s)→Ze5 e g=Ze5 e' g
 | none,_=>rfl
 | some (s,b),h=>by simp only[Ze5,h s b rfl]
section
variable {P:Program} {G:Zbv} {N:Nat} {Γ:Ctx} {cf:Zbw} {t:ZcF} {l:List Op1} {e:Env} {H:Zh} {e':Env} {H':Zh} {os:Array Oper} {B:Nat→Nat→Prop} {Rf:RP} {wf:World}
structure Zw4 (P:Program) (N:Nat) (t:ZcF) (l:List Op1) (os:Array Oper) (e:Env) (H:Zh) (Rf:RP) (wf:World) (D:Nat→Bool) (a:Act) (w:World):Prop where
 closed:Zpn os D
 ex:∃K R env,K≤l.length∧(∀m p,l[m]? = some p→m<K→3≤Za1 p→D m=true)∧(K<l.length→∃p,l[K]? = some p∧3≤Za1 p∧D K=false) ∧
  Ext Rf wf R w∧R.OK w∧R.H=ZjB t D K∧(∀i,H.length≤i→(∀j,j<l.length→D j=true→¬(t.len j≤i∧i<t.len (j+1)))→R.M i=none)∧ZhK R w env a ∧
  (∀j p d,l[j]? = some p→p.dst=some d→D j=true→env d=t.VV j)∧(∀d,(∀j p,l[j]? = some p→p.dst=some d→D j=false)→env d=e d)
 tm:N≤a.tmps.size
 df:a.defers=[]
theorem Zx6 (ht:t.OK Γ cf [] l e H e' H') {D:Nat→Bool}{s:Nat}{R:RP}{w:World} (hs:s≤l.length) (ok:R.OK w) (hH:R.H=t.HH s) (hb:∀m p,l[m]? = some p→m<s→2≤Za1 p→D m=true) (ha:∀m p,l[m]? = some p→s≤m→2≤Za1 p→D m=false) :
  ∃K,K≤l.length∧(∀m p,l[m]? = some p→m<K→3≤Za1 p→D m=true)∧(K<l.length→∃p,l[K]? = some p∧3≤Za1 p∧D K=false)∧Ext R w { R with H:=ZjB t D K } w∧RP.OK { R with H:=ZjB t D K } w:=by
 obtain⟨K,h1,h2,h3,h4⟩:=Zz0 l s hs
 have live:∀(i:Nat) blk,(ZjB t D K)[i]? = some blk→blk ≠ .dead→R.H[i]? = some blk:=fun i blk h hd=>by
  obtain⟨g1,g2⟩:=ZuZ h hd
  rw[ZkO] at g2
  have hiK:i<t.len K:=(List.getElem?_eq_some_iff.1 g1).1
  by_cases hi:i<t.len s
  ·rw[hH,← ht.stay K h1 h2 h3 i hi];exact g1
  ·obtain⟨j,f1,f2,f3,f4⟩:=ht.whose K h1 h2 (by omega) hiK
   have hp:l[j]? = some (l[j]'(by omega)):=List.getElem?_eq_getElem (by omega)
   have d1:=ha j _ hp f1 (ht.new2 hp ⟨f3,f4⟩)
   rw[g2 j f2 f3 f4] at d1;cases d1
 refine⟨K,h2,fun m p hp hm hc=>?_,fun hK=>?_,Ext.kill live,ok.kill live⟩
 ·rcases Nat.lt_or_ge m s with h | h
  ·exact hb m p hp h (by omega)
  ·have:=h3 m p h hm hp;omega
 ·obtain⟨p,f1,f2⟩:=h4 hK
  exact⟨p,f1,f2,ha K p f1 h1 (by omega)⟩
def upd (D:Nat→Bool) (j:Nat):Nat→Bool:=fun i=>if i=j then true else D i
theorem step (c:Zli P G cf Rf wf) (hlo:Rf.H.length≤H.length) (ht:t.OK Γ cf [] l e H e' H') (hk:Chk P G N os l B) {Q:Exit→Act→World→Prop}{D:Nat→Bool}{a:Act}{w:World} (s:Zw4 P N t l os e H Rf wf D a w) {j:Nat}{o:Oper} (ho:os[j]? = some o) (hDj:D j=false) (hpre:∀i∈Zn8 o,D i=true) :
  wpOp P os Q j (fun a' w'=>Zw4 P N t l os e H Rf wf (upd D j) a' w') a w:=by
 obtain⟨K,R,env,hK,hKd,hKn,x,ok,hH,hM,hE,hV,hO⟩:=s.ex
 have hjl:j<l.length:=by rw[← hk.len];exact(Array.getElem?_eq_some_iff.1 ho).1
 obtain⟨p,hp⟩:∃p,l[j]? = some p:=⟨_,List.getElem?_eq_getElem hjl⟩
 have hoper:=hk.oper j o p ho hp
 simp only[Zm4,Bool.and_eq_true] at hoper
 obtain⟨k1,k2,k3⟩:=hoper
 have down:∀i,B i j→D i=true:=fun i hb=>hk.down s.closed j i o ho hpre hb
 have downD:∀i k,k<l.length→D k=true→B i k→D i=true:=fun i k h1 h2 h3=>hk.downD s.closed h1 h2 h3
 have slot:∀d,d∈Zdt p→env d=t.E j d:=fun d hd=>by
  by_cases hx:∃(i:Nat) (q:Op1),l[i]? = some q∧q.dst=some d
  ·obtain⟨i,q,hq,hqd⟩:=hx
   have old:j≤i→D i=false→env d=t.E j d:=fun hji hDi=>by
    rw[hO d fun i' q' hq' hqd'=>by rw[hk.dst i' i q' q d hq' hq hqd' hqd];exact hDi,ht.env0 j (by omega) fun i' q' hi' hq' hqd'=>by
     have:=hk.dst i' i q' q d hq' hq hqd' hqd;omega]
   rcases hk.reads i j q p d hq hp hqd hd with hb | hb | hb
   ·rw[hV i q d hq hqd (down i hb),ht.envd hk hq hqd j (hk.lt j i hjl hb) (by omega)]
   ·have hi:=(List.getElem?_eq_some_iff.1 hq).1
    refine old (Nat.le_of_lt (hk.lt i j hi hb)) ?_
    cases hDi:D i with
    | false=>rfl
    | true=>have:=downD j i hi hDi hb;rw[hDj] at this;cases this
   ·subst hb;exact old (Nat.le_refl _) hDj
  ·have hn:∀(i:Nat) (q:Op1),l[i]? = some q→q.dst≠some d:=fun i q hq hqd=>hx ⟨i,q,hq,hqd⟩
   rw[hO d fun i q hq hqd=>absurd hqd (hn i q hq),ht.env0 j (by omega) fun i q _ hq=>hn i q hq]
 have hg:Ze5 env p.guard=some (t.W j):=by
  rw[← ht.w j p hp]
  refine Zt4 _ fun s' b hs=>slot s' ?_
  unfold Zdt
  rw[hs];simp
 have hwant:=ZnO (a:=a) hE k2 hg
 have hop:∀nid Hm,opE Γ cf env nid Hm p.op=opE Γ cf (t.E j) nid Hm p.op:=fun nid Hm=>by
  refine Zxd _ fun y hy=>?_
  cases y with
  | c v=>rfl
  | t i=>
   refine slot i ?_
   unfold Zdt
   exact List.mem_append_left _ (List.mem_filterMap.2 ⟨.t i,hy,rfl⟩)
 have closed':Zpn os (upd D j):=fun k o' hk' hd i hi=>by
  unfold upd at hd ⊢
  by_cases hik:i=j
  ·rw[if_pos hik]
  ·rw[if_neg hik]
   by_cases hkj:k=j
   ·subst hkj;rw[ho] at hk';cases hk';exact hpre i hi
   ·rw[if_neg hkj] at hd;exact s.closed k o' hk' hd i hi
 have fin:∀(K':Nat) (R':RP) (u:Value) (w':World),K'≤l.length→(∀m p,l[m]? = some p→m<K'→3≤Za1 p→upd D j m=true)→(K'<l.length→∃p,l[K']? = some p∧3≤Za1 p∧upd D j K'=false) →
   Ext R w R' w'→R'.OK w'→R'.H=ZjB t (upd D j) K'→(∀i,R.M i=none→¬(t.len j≤i∧i<t.len (j+1))→R'.M i=none)→Zbb R' w' (t.VV j) u→Zw4 P N t l os e H Rf wf (upd D j) (a.put o.dst u) w':=by
  intro K' R' u w' hK' hKd' hKn' x' ok' hH' hM' hv
  refine⟨closed',⟨K',R',ZnH env p.dst (t.VV j),hK',hKd',hKn',x.trans x',ok',hH',fun i hi hni=>?_,Zna (x'.envOK ok.b01 hE) k1 s.tm hv,fun i q d hq hqd hd=>?_,fun d hd=>?_⟩,by rw[ZpK];exact s.tm,by rw[ZqD];exact s.df⟩
  ·refine hM' i (hM i hi fun m hm hd=>hni m hm ?_) (hni j hjl ?_)
   ·unfold upd;split
    ·rfl
    ·exact hd
   ·unfold upd;rw[if_pos rfl]
  ·cases hpd:p.dst with
   | none=>
    show env d=_
    have hij:i≠j:=fun h=>by subst h;rw[hp] at hq;cases hq;rw[hpd] at hqd;cases hqd
    refine hV i q d hq hqd ?_
    unfold upd at hd;rw[if_neg hij] at hd;exact hd
   | some d'=>
    show(bif Nat.beq d' d then t.VV j else env d)=_
    cases hb:Nat.beq d' d with
    | true=>
     obtain rfl:=Nat.eq_of_beq_eq_true hb
     obtain rfl:=hk.dst i j q p d' hq hp hqd hpd
     rfl
    | false=>
     have hij:i≠j:=fun h=>by
      subst h;rw[hp] at hq;cases hq;rw[hpd] at hqd;cases hqd;rw[Nat.beq_refl] at hb;cases hb
     refine hV i q d hq hqd ?_
     unfold upd at hd;rw[if_neg hij] at hd;exact hd
  ·have h0:env d=e d:=hO d fun i q hq hqd=>by
    have:=hd i q hq hqd
    unfold upd at this
    by_cases hij:i=j
    ·rw[if_pos hij] at this;cases this
    ·rw[if_neg hij] at this;exact this
   cases hpd:p.dst with
   | none=>exact h0
   | some d'=>
    show(bif Nat.beq d' d then t.VV j else env d)=_
    cases hb:Nat.beq d' d with
    | false=>exact h0
    | true=>
     obtain rfl:=Nat.eq_of_beq_eq_true hb
     have:=hd j p hp hpd
     unfold upd at this;rw[if_pos rfl] at this;cases this
 have hlen:=ht.len_succ hjl
 have own:∀i m,m<l.length→(t.len m≤i∧i<t.len (m+1))→(t.len j≤i∧i<t.len (j+1))→m=j:=fun i m hm h1 h2=>ht.one hm hjl h1 h2
 have base:H.length≤t.len j:=by
  have:=ht.len_mono (a:=0) j (by omega) (by omega)
  unfold ZcF.len at this ⊢;rw[ht.h0] at this;exact this
 have free:∀i,t.len j≤i→i<t.len j+(t.NW j).length→R.M i=none:=fun i h1 h2=>hM i (by omega) fun m hm hd h=>by
  have:=own i m hm h ⟨h1,by omega⟩
  subst this;rw[hDj] at hd;cases hd
 rcases Nat.lt_or_ge (Za1 p) 3 with hc | hc
 ·
  have hKd':∀m p,l[m]? = some p→m<K→3≤Za1 p→upd D j m=true:=fun m p' h1 h2 h3=>by
   unfold upd;split
   ·rfl
   ·exact hKd m p' h1 h2 h3
  have hKn':K<l.length→∃p,l[K]? = some p∧3≤Za1 p∧upd D j K=false:=fun h=>by
   obtain⟨q,h1,h2,h3⟩:=hKn h
   refine⟨q,h1,h2,?_⟩
   unfold upd;rw[if_neg (fun h=>by subst h;rw[hp] at h1;cases h1;omega)];exact h3
  have two:2≤Za1 p→j<K∧∀m q,j≤m→m<K→l[m]? = some q→Za1 q≤2:=fun h2=>by
   constructor
   ·rcases Nat.lt_or_ge j K with h | h
    ·exact h
    ·obtain⟨q,g1,g2,g3⟩:=hKn (by omega)
     rcases hk.order g1 hp g2 h2 with f | f | f
     ·subst f;rw[hp] at g1;cases g1;omega
     ·rw[down K f.2] at g3;cases g3
     ·omega
   ·intro m q h3 h4 hq
    rcases Nat.lt_or_ge (Za1 q) 3 with h | h
    ·omega
    ·rcases hk.order hq hp h h2 with f | f | f
     ·subst f;rw[hp] at hq;cases hq;omega
     ·omega
     ·have:=downD j m (by omega) (hKd m q hq h4 h) f.2
      rw[hDj] at this;cases this
  have stg:∀i,(ZjB t (upd D j) K)[i]? = if t.len j≤i∧i<t.len j+(t.NW j).length then (t.NW j)[i-t.len j]? else (ZjB t D K)[i]?:=fun i=>by
   by_cases hi:t.len j≤i∧i<t.len j+(t.NW j).length
   ·rw[if_pos hi]
    have h2:=ht.new2 hp (i:=i) ⟨hi.1,by omega⟩
    obtain⟨t1,t2⟩:=two h2
    rw[ZhP]
    ·rw[ht.stay (a:=j+1) K (by omega) hK (fun m q h3 h4 hq=>t2 m q (by omega) h4 hq) i (by omega),ht.stay1 hp (by omega),List.getElem?_append_right hi.1]
     rfl
    ·rw[ZkO]
     intro m hm h3 h4
     have:=own i m (by omega) ⟨h3,h4⟩ ⟨hi.1,by omega⟩
     unfold upd;rw[if_pos this]
   ·rw[if_neg hi,Zme,Zme]
    have:hid t (upd D j) K i=hid t D K i:=by
     rw[Bool.eq_iff_iff,ZsA,ZsA]
     constructor
     ·rintro ⟨m,h1,h2,h3⟩
      unfold upd at h2
      by_cases hm:m=j
      ·rw[if_pos hm] at h2;cases h2
      ·rw[if_neg hm] at h2;exact⟨m,h1,h2,h3⟩
     ·rintro ⟨m,h1,h2,h3,h4⟩
      have hm:m≠j:=fun h=>by subst h;omega
      exact⟨m,h1,by unfold upd;rw[if_neg hm];exact h2,h3,h4⟩
    rw[this]
  have hpl:t.UP j=[]:=ht.noUp hp (by omega)
  unfold wpOp
  simp only[ho]
  cases hw:t.W j with
  | false=>
   rw[hw] at hwant
   rw[hwant]
   simp only[Bool.false_eq_true,if_false]
   obtain⟨n1,n2,n3⟩:=ht.n j p hp hw
   refine fin K R undef w hK hKd' hKn' (Ext.refl R w) ok ?_ (fun i h _=>h) (by rw[n1];exact Zqd)
   rw[hH]
   apply List.ext_getElem?
   intro i
   rw[stg i,n3,if_neg (by rintro ⟨h1,h2⟩;simp at h2;omega)]
  | true=>
   rw[hw] at hwant
   rw[hwant]
   simp only[if_true]
   obtain⟨y1,y2⟩:=ht.y j p hp hw
   rw[hpl] at y1
   have see:Za1 p≤2→∀i blk,(Zhx (t.HH j) ([]++t.pos j) p.mask)[i]? = some blk→blk ≠ .dead→(t.HH j)[i]? = some blk∧∀m,m<j→t.len m≤i→i<t.len (m+1)→D m=true:=fun _ i blk h hd=>by
    obtain⟨h1,h2⟩:=ZoB _ _ _ i blk h hd
    refine⟨h1,fun m hm h3 h4=>?_⟩
    have hq:l[m]? = some (l[m]'(by omega)):=List.getElem?_eq_getElem (by omega)
    rcases hk.early m j _ p hq hp hm with f | f | f
    ·omega
    ·exact down m f
    ·have h5:=h2 m f (t.len m) (t.NW m).length (by simp[ZcF.pos,hm,ZcF.len])
     have:=ht.len_succ (j:=m) (by omega)
     omega
   have hHm:∃Hm,(∀b blk,nth Hm b=some blk→blk ≠ .dead→nth R.H b=some blk)∧opE Γ cf env (t.len j) Hm p.op=some (t.VV j,[],t.NW j):=by
    rcases Nat.lt_or_ge (Za1 p) 2 with h2 | h2
    ·rcases Zr0 (p:=p) (by omega) with⟨_,h0⟩ | ⟨h01,h1,hne⟩ | ⟨h01,he1⟩
     ·refine⟨[],fun b blk hb=>by simp[nth] at hb,?_⟩
      rw[hop,ZBz (nid':=(t.HH j).length) (H':=Zhx (t.HH j) ([]++t.pos j) p.mask) h0];exact y1
     ·refine⟨R.H,fun b blk hb _=>hb,?_⟩
      rw[hop]
      refine ZBu (H:=Zhx (t.HH j) ([]++t.pos j) p.mask) (fun b blk hb hd=>?_) h1 y1
      rw[Z6] at hb
      obtain⟨g1,g2⟩:=see (by omega) b blk hb hd
      have hbj:b<t.len j:=(List.getElem?_eq_some_iff.1 g1).1
      have hbK:b<t.len K:=by
       rcases Nat.lt_or_ge j K with h | h
       ·have:=ht.len_mono (a:=j) K (by omega) hK;omega
       ·by_cases hb0:b<t.len 0
        ·have:=ht.len_mono (a:=0) K (by omega) hK;omega
        ·obtain⟨m,_,f2,f3,f4⟩:=ht.whose (a:=0) j (by omega) (by omega) (by omega) hbj
         have hdm:=g2 m f2 f3 f4
         have hq:l[m]? = some (l[m]'(by omega)):=List.getElem?_eq_getElem (by omega)
         have hmK:m<K:=by
          rcases Nat.lt_or_ge m K with h' | h'
          ·exact h'
          ·obtain⟨q,q1,q2,q3⟩:=hKn (by omega)
           rcases hk.order q1 hq q2 (ht.new2 hq ⟨f3,f4⟩) with f | f | f
           ·subst f;rw[hdm] at q3;cases q3
           ·rw[downD K m (by omega) hdm f.2] at q3;cases q3
           ·omega
         have:=ht.len_mono (a:=m+1) K (by omega) hK;omega
      have hhid:hid t D K b=false:=by
       rw[ZkO]
       intro m hm h3 h4
       rcases Nat.lt_or_ge m j with h | h
       ·exact g2 m h h3 h4
       ·have:=ht.len_mono (a:=j) m h (by omega);omega
      rw[Z6,hH,ZhP hhid]
      have three:∀m q,l[m]? = some q→(j≤m∧m<K∨K≤m∧m<j)→Za1 q≤3:=fun m q hq hm=>by
       rcases Nat.lt_or_ge (Za1 q) 3 with h | h
       ·omega
       ·rcases hk.pair m j q p hq hp h with f | f | f | f | f | f
        ·subst f;rw[hp] at hq;cases hq;omega
        ·rcases hm with hm | hm
         ·have:=hk.lt j m hjl f;omega
         ·have hdm:=down m f
          obtain⟨q',q1,q2,q3⟩:=hKn (by omega)
          rcases hk.order q1 hq q2 (by omega) with g | g | g
          ·subst g;rw[hdm] at q3;cases q3
          ·rw[downD K m (by omega) hdm g.2] at q3;cases q3
          ·omega
        ·rcases hm with hm | hm
         ·have:=downD j m (by omega) (hKd m q hq hm.2 h) f
          rw[hDj] at this;cases this
         ·have:=hk.lt m j (by omega) f;omega
        ·omega
        ·omega
        ·exact absurd f.1 hne
      rcases Nat.le_total j K with h | h
      ·obtain⟨x1,y1',z1,z2,z3⟩:=ht.like hk (a:=j) K h hK (fun m q h3 h4 hq=>three m q hq (.inl ⟨h3,h4⟩)) b hbj
       rw[g1] at z1;cases z1
       exact⟨y1',z2,z3.elim (fun h=>h ▸ Blk.like_refl hd) id⟩
      ·obtain⟨x1,y1',z1,z2,z3⟩:=ht.like hk (a:=K) j h (by omega) (fun m q h3 h4 hq=>three m q hq (.inr ⟨h3,h4⟩)) b hbK
       rw[g1] at z2;cases z2
       exact⟨x1,z1,z3.elim (fun h=>by subst h;exact Blk.like_refl hd) Blk.like_symm⟩
     ·
      obtain⟨n0,ag0,s',hops,hgd⟩:∃n0 ag0 s',p.op = .load n0 ag0 (.t s')∧p.guard=none:=by
       have:=hk.eff1 j p hp
       unfold ZuE at this
       rw[he1] at this
       change (match p.op,p.guard with | .load _ _ (.t _),none=>true | _,_=>false)=true at this
       split at this
       ·exact⟨_,_,_,by assumption,by assumption⟩
       ·cases this
      have hsl:s'∈Zdt p:=by unfold Zdt;rw[hops];simp[ZvV,ZAb]
      have hjK:j<K:=by
       rcases Nat.lt_or_ge j K with h | h
       ·exact h
       ·obtain⟨q,g1,g2,g3⟩:=hKn (by omega)
        rcases hk.pair K j q p g1 hp g2 with f | f | f | f | f | f
        ·subst f;rw[hp] at g1;cases g1;omega
        ·rw[down K f] at g3;cases g3
        ·have:=hk.lt K j (by omega) f;omega
        ·omega
        ·exact absurd he1 f.2.2
        ·omega
      have ldE:∀(Hx:Zh) (k:Nat),opE Γ cf (t.E j) k Hx p.op=(match Zdq Hx n0 ag0 (t.E j s') with | some v=>ZcR v | none=>none):=fun Hx k=>by rw[hops];rfl
      rw[ldE] at y1
      have hyl:Zdq (Zhx (t.HH j) ([]++t.pos j) p.mask) n0 ag0 (t.E j s')=some (t.VV j)∧t.NW j=[]:=by
       cases hl:Zdq (Zhx (t.HH j) ([]++t.pos j) p.mask) n0 ag0 (t.E j s') with
       | none=>rw[hl] at y1;cases y1
       | some v=>
        rw[hl] at y1
        obtain⟨rfl,_,h3⟩:=Zau y1
        exact⟨rfl,h3⟩
      obtain⟨hyl,hnw⟩:=hyl
      have key:∀k,j≤k→k≤K→Zdq (t.HH k) n0 ag0 (t.E j s')=some (t.VV j):=by
       intro k
       induction k with
       | zero=>
        intro h _
        have:j=0:=by omega
        subst this
        exact Zl3 hyl fun b _ blk hb hd=>(see (by omega) b blk hb hd).1
       | succ k ih=>
        intro hjk hkK
        by_cases hjk':j=k+1
        ·subst hjk'
         exact Zl3 hyl fun b _ blk hb hd=>(see (by omega) b blk hb hd).1
        ·have ih':=ih (by omega) (by omega)
         have hq:l[k]? = some (l[k]'(by omega)):=List.getElem?_eq_getElem (by omega)
         have app:∀(Ha Hb:Zh),Zdq Ha n0 ag0 (t.E j s')=some (t.VV j)→Zdq (Ha++Hb) n0 ag0 (t.E j s')=some (t.VV j):=fun Ha Hb hl=>
          Zl3 hl fun b _ blk hb _=>by rw[List.getElem?_append_left (List.getElem?_eq_some_iff.1 hb).1];exact hb
         rcases Nat.lt_or_ge (Za1 (l[k]'(by omega))) 3 with h | h
         ·rw[ht.stay1 hq (by omega)]
          exact app _ _ ih'
         ·rcases hk.pair k j _ p hq hp h with f | f | f | f | f | f
          ·subst f
           rw[hp] at hq
           have hq':=Option.some.inj hq
           rw[← hq'] at h
           omega
          ·have:=hk.lt j k hjl f;omega
          ·have:=downD j k (by omega) (hKd k _ hq (by omega) h) f
           rw[hDj] at this;cases this
          ·omega
          ·exact absurd he1 f.2.2
          ·cases hwk:t.W k with
           | false=>
            obtain⟨_,n2,n3⟩:=ht.n k _ hq hwk
            rw[ht.h k _ hq,n2,n3]
            exact app _ _ ih'
           | true=>
            have zc:=(Zn2 (ht.y k _ hq hwk).2).2
            have hkp:=f.2.2
            unfold Zy6 at hkp
            rw[hops] at hkp
            split at hkp
            ·rename_i f' args chk s'' hopk hsx
             cases hsx
             rw[hopk] at zc
             obtain⟨i0,q1,q2⟩:=ZuC (show Zxa (t.E k) (t.HH k) (Zdh (t.HH k) (t.UP k)) chk=true from zc) hkp
             rw[ht.envs hk hp he1 hsl k (by omega) (by omega)] at q1 q2
             rw[q1] at ih'
             rw[ht.h k _ hq]
             exact app _ _ (q2.trans ih')
            ·rename_i m' x' y' chk n' a' s'' hopk hsx
             cases hsx
             rw[hopk] at zc
             have ap:=ZpX (show Zoo (t.E k) (t.UP k) chk=true from zc) hkp
             rw[ht.envs hk hp he1 hsl k (by omega) (by omega)] at ap
             rw[ht.h k _ hq]
             refine app _ _ (Zl3 ih' fun b hb blk hbk _=>?_)
             rw[Ztv (ap b hb)]
             exact hbk
            ·cases hkp
      refine⟨R.H,fun b blk hb _=>hb,?_⟩
      rw[hop,ldE]
      have:Zdq R.H n0 ag0 (t.E j s')=some (t.VV j):=by
       refine Zl3 (key K (by omega) (Nat.le_refl _)) fun b hb blk hbk hd=>?_
       obtain⟨blk0,h5,h6⟩:=Zw0 hyl hb
       obtain⟨g1,g2⟩:=see (by omega) b blk0 h5 h6
       have hbj:b<t.len j:=(List.getElem?_eq_some_iff.1 g1).1
       rw[hH,ZhP]
       ·exact hbk
       ·rw[ZkO]
        intro m hm h3 h4
        rcases Nat.lt_or_ge m j with h | h
        ·exact g2 m h h3 h4
        ·have:=ht.len_mono (a:=j) m h (by omega);omega
      rw[this,hnw];rfl
    ·obtain⟨t1,t2⟩:=two h2
     refine⟨_,fun b blk hb hd=>?_,by rw[hop];exact y1⟩
     rw[Z6] at hb
     obtain⟨g1,g2⟩:=see (by omega) b blk hb hd
     have hbj:b<t.len j:=(List.getElem?_eq_some_iff.1 g1).1
     rw[Z6,hH,ZhP,ht.stay K (by omega) hK t2 b hbj]
     ·exact g1
     ·rw[ZkO]
      intro m hm h3 h4
      rcases Nat.lt_or_ge m j with h | h
      ·exact g2 m h h3 h4
      ·have:=ht.len_mono (a:=j) m h (by omega);omega
   obtain⟨Hm,hle,hop'⟩:=hHm
   have pre:Pre G R w env a Hm:=⟨ok,x.gok c.ok.b01 c.g,hE,hle⟩
   have hplaced:Zaj R.H [] (t.len j) (t.NW j) (ZjB t (upd D j) K):=fun i=>by rw[stg i,hH];rfl
   refine .inl ((Zwy pre c.cf k3 hop' free hplaced).wp fun u w' hpost=>?_)
   obtain⟨R',x',ok',hH',hv,hM'⟩:=hpost
   exact fin K R' u w' hK hKd' hKn' x' ok' hH' (fun i h1 h2=>hM' i h1 (by omega)) hv
 ·
  have hjK:j=K:=by
   rcases Nat.lt_trichotomy j K with h | h | h
   ·rw[hKd j p hp h hc] at hDj;cases hDj
   ·exact h
   ·obtain⟨q,g1,g2,g3⟩:=hKn (by omega)
    rcases hk.order g1 hp g2 (by omega) with f | f | f
    ·omega
    ·rw[down K f.2] at g3;cases g3
    ·omega
  subst hjK
  have below:∀m q,l[m]? = some q→m<j→2≤Za1 q→D m=true:=fun m q hq hm h2=>by
   rcases hk.order hp hq hc h2 with f | f | f
   ·omega
   ·omega
   ·exact down m f.2
  have above:∀m q,l[m]? = some q→j<m→2≤Za1 q→D m=false:=fun m q hq hm h2=>by
   cases hd:D m with
   | false=>rfl
   | true=>
    rcases hk.order hp hq hc h2 with f | f | f
    ·omega
    ·have:=downD j m (List.getElem?_eq_some_iff.1 hq).1 hd f.2
     rw[hDj] at this;cases this
    ·omega
  have full:ZjB t D j=t.HH j:=by
   apply List.ext_getElem?
   intro i
   refine ZhP (ZkO.2 fun m hm h3 h4=>?_)
   have hq:l[m]? = some (l[m]'(by omega)):=List.getElem?_eq_getElem (by omega)
   exact below m _ hq hm (ht.new2 hq ⟨h3,h4⟩)
  rw[full] at hH
  have go:∀(R':RP) (u:Value) (w':World),Ext R w R' w'→R'.OK w'→R'.H=t.HH (j+1)→(∀i,R.M i=none→¬(t.len j≤i∧i<t.len (j+1))→R'.M i=none)→Zbb R' w' (t.VV j) u→Zw4 P N t l os e H Rf wf (upd D j) (a.put o.dst u) w':=by
   intro R' u w' x' ok' hH' hM' hv
   obtain⟨K',g1,g2,g3,g4,g5⟩:=Zx6 ht (D:=upd D j) (s:=j+1) (by omega) ok' hH' (fun m q hq hm h2=>by
    unfold upd
    by_cases hmj:m=j
    ·rw[if_pos hmj]
    ·rw[if_neg hmj];exact below m q hq (by omega) h2) (fun m q hq hm h2=>by
    unfold upd;rw[if_neg (by omega)];exact above m q hq (by omega) h2)
   exact fin K' _ u w' g1 g2 g3 (x'.trans g4) g5 rfl hM' (g4.denV ok'.b01 _ _ hv)
  unfold wpOp
  simp only[ho]
  cases hw:t.W j with
  | false=>
   rw[hw] at hwant
   rw[hwant]
   simp only[Bool.false_eq_true,if_false]
   obtain⟨n1,n2,n3⟩:=ht.n j p hp hw
   refine go R undef w (Ext.refl R w) ok ?_ (fun i h _=>h) (by rw[n1];exact Zqd)
   rw[hH,ht.h j p hp,n2,n3];simp[Zdh]
  | true=>
   rw[hw] at hwant
   rw[hwant]
   simp only[if_true]
   obtain⟨y1,y2⟩:=ht.y j p hp hw
   rw[hk.mask j p hp hc] at y1
   have pre:Pre G R w env a (t.HH j):=⟨ok,x.gok c.ok.b01 c.g,hE,fun b blk hb _=>by rw[hH];exact hb⟩
   have hplaced:Zaj R.H (t.UP j) (t.len j) (t.NW j) (t.HH (j+1)):=by
    rw[hH,ht.h j p hp];exact Zlc _ _ _
   refine .inl ((Zwy pre c.cf k3 (by rw[hop];exact y1) free hplaced).wp fun u w' hpost=>?_)
   obtain⟨R',x',ok',hH',hv,hM'⟩:=hpost
   exact go R' u w' x' ok' hH' (fun i h1 h2=>hM' i h1 (by omega)) hv
theorem Zsh {p q:Nat→Bool}:∀(l:List Nat) (j:Nat),(∀x,q x=true→p x=true)→j∈l→p j=true→q j=false→l.countP q<l.countP p
 | [],j,_,h,_,_=>by cases h
 | x :: l,j,hq,h,h1,h2=>by
  have mono:∀l:List Nat,l.countP q≤l.countP p:=fun l=>List.countP_mono_left fun x _ h=>hq x h
  rw[List.countP_cons,List.countP_cons]
  by_cases hx:x=j
  ·subst hx
   have:=mono l
   rw[h1,h2];simp;omega
  ·have:=Zsh l j hq ((List.mem_cons.1 h).resolve_left (fun h=>hx h.symm)) h1 h2
   cases hqx:q x with
   | true=>rw[hq x hqx];simp;omega
   | false=>cases hpx:p x<;>simp<;>omega
theorem Zya (c:Zli P G cf Rf wf) (hlo:Rf.H.length≤H.length) (ht:t.OK Γ cf [] l e H e' H') (hk:Chk P G N os l B) {Q:Exit→Act→World→Prop} (hQ:∀D a w,(∀j,j<l.length→D j=true)→Zw4 P N t l os e H Rf wf D a w→Q .normal a w) :
  ∀(fuel:Nat) (listed:Array Bool) (a:Act) (w:World),listed.size=os.size→Zw4 P N t l os e H Rf wf (fun j=>listed.getD j false) a w→(List.range os.size).countP (fun j=>!listed.getD j false)≤fuel→wpAny P .any os Q fuel listed a w:=by
 have full:∀(listed:Array Bool),listed.size=os.size→(Region.ready .any os listed=[])→∀j,j<l.length→listed.getD j false=true:=by
  intro listed hsz hr j
  induction j using Nat.strongRecOn with
  | ind j ih=>
   intro hj
   have hjs:j<os.size:=by rw[hk.len];exact hj
   cases hd:listed.getD j false with
   | true=>rfl
   | false=>
    have:j∈Region.ready .any os listed:=by
     rw[mem_ready]
     refine⟨?_,os[j],Array.getElem?_eq_getElem hjs,fun ed he hb=>?_⟩
     ·simp only[Array.getD_eq_getD_getElem?] at hd ⊢
      rw[Array.getElem?_eq_getElem (by omega)] at hd ⊢;exact hd
     ·have hlt:=hk.pre j _ (Array.getElem?_eq_getElem hjs) ed.on (by
       unfold Zn8
       exact List.mem_map.2 ⟨ed,List.mem_filter.2 ⟨by simpa using he,hb⟩,rfl⟩)
      exact ih ed.on hlt (by omega)
    rw[hr] at this;cases this
 intro fuel
 induction fuel with
 | zero=>
  intro listed a w hsz s hc
  have hall:∀j,j<l.length→listed.getD j false=true:=fun j hj=>by
   cases hd:listed.getD j false with
   | true=>rfl
   | false=>
    have h1:0<(List.range os.size).countP (fun j=>!listed.getD j false):=List.countP_pos_iff.2 ⟨j,by simp[hk.len,hj],by simp only[hd];rfl⟩
    omega
  refine⟨?_,hQ _ a w hall s⟩
  apply List.eq_nil_iff_forall_not_mem.2
  intro j hj
  obtain⟨h1,o,h2,_⟩:=mem_ready.1 hj
  have hjs:=(Array.getElem?_eq_some_iff.1 h2).1
  have:=hall j (by rw[← hk.len];exact hjs)
  simp only[Array.getD_eq_getD_getElem?] at h1 this
  rw[Array.getElem?_eq_getElem (by omega)] at h1 this
  simp at h1 this;rw[h1] at this;cases this
 | succ fuel ih=>
  intro listed a w hsz s hc
  refine⟨fun hr=>hQ _ a w (full listed hsz hr) s,fun j hj=>?_⟩
  obtain⟨h1,o,h2,h3⟩:=mem_ready.1 hj
  have hjs:=(Array.getElem?_eq_some_iff.1 h2).1
  have hd:listed.getD j false=false:=by
   simp only[Array.getD_eq_getD_getElem?] at h1 ⊢
   rw[Array.getElem?_eq_getElem (by omega)] at h1 ⊢;exact h1
  have hup:upd (fun j=>listed.getD j false) j=fun k=>(listed.setIfInBounds j true).getD k false:=by
   funext k
   unfold upd
   by_cases hkj:k=j
   ·subst hkj
    rw[if_pos rfl]
    simp[Array.getD_eq_getD_getElem?,hsz,hjs]
   ·rw[if_neg hkj,getD_set_ne false (fun h=>hkj h.symm)]
  refine wpOp_mono (fun a' w' s'=>ih _ a' w' (by simp[hsz]) s' ?_) (hup ▸ step c hlo ht hk s h2 hd fun i hi=>?_)
  ·have:=Zsh (p:=fun j=>!listed.getD j false) (q:=fun k=>!(listed.setIfInBounds j true).getD k false) (List.range os.size) j (fun k hk'=>by
    by_cases hkj:j=k
    ·subst hkj;simp only[hd];rfl
    ·rw[getD_set_ne false hkj] at hk';exact hk') (by simp[hjs]) (by simp only[hd];rfl) (by simp[Array.getD_eq_getD_getElem?,hsz,hjs])
   omega
  ·unfold Zn8 at hi
   obtain⟨ed,f1,rfl⟩:=List.mem_map.1 hi
   obtain⟨f2,f3⟩:=List.mem_filter.1 f1
   exact h3 ed (by simpa using f2) f3
end
theorem ZA9 {P:Program}{G:Zbv}{N:Nat}{Γ:Ctx}{cf:Zbw}:Zm2 P G N Γ cf (Zs P G N):=by
 intro id os l Rf wf e H e' H' a w hok hd c s
 obtain⟨B,hk⟩:=Zvg hok
 obtain⟨t,ht⟩:=Zp6 l [] e H e' H' hd
 obtain⟨R,x,ok,hH,hM,hE⟩:=s.ex
 refine wp_region_any hk.mixed ?_
 have xd:Ext R w R { w with drawn:=w.drawn+1 }:=Ext.draw rfl rfl rfl rfl
 have okd:R.OK { w with drawn:=w.drawn+1 }:=ok.draw rfl rfl rfl rfl
 refine Zya c s.hl ht hk (fun D a' w' hall s'=>?_) os.size _ a _ (by simp) ?_ ?_
 ·obtain⟨K,R',env,h1,h2,h3,x',ok',hH',hM',hE',hV,hO⟩:=s'.ex
  have hKl:K=l.length:=by
   rcases Nat.lt_or_ge K l.length with h | h
   ·obtain⟨_,_,_,h4⟩:=h3 h
    rw[hall K h] at h4;cases h4
   ·omega
  subst hKl
  have hHe:ZjB t D l.length=H':=by
   rw[← ht.h1]
   apply List.ext_getElem?
   intro i
   exact ZhP (ZkO.2 fun m hm _ _=>hall m hm)
  have hle:H.length≤H'.length:=by
   have:=ht.len_mono (a:=0) l.length (by omega) (Nat.le_refl _)
   unfold ZcF.len at this;rw[ht.h0,ht.h1] at this;exact this
  have henv:∀d,env d=e' d:=fun d=>by
   rw[← ht.e1]
   by_cases hx:∃(i:Nat) (q:Op1),l[i]? = some q∧q.dst=some d
   ·obtain⟨i,q,hq,hqd⟩:=hx
    have hi:=(List.getElem?_eq_some_iff.1 hq).1
    rw[hV i q d hq hqd (hall i hi),ht.envd hk hq hqd l.length hi (Nat.le_refl _)]
   ·have hn:∀(i:Nat) (q:Op1),l[i]? = some q→q.dst≠some d:=fun i q hq hqd=>hx ⟨i,q,hq,hqd⟩
    rw[hO d fun i q hq hqd=>absurd hqd (hn i q hq),ht.env0 l.length (Nat.le_refl _) fun i q _ hq=>hn i q hq]
  refine⟨rfl,⟨⟨R',x',ok',by rw[hH',hHe],fun i hi=>hM' i (by omega) fun j hj _ hb=>?_,fun d=>by rw[← henv d];exact hE' d⟩,s'.tm,s'.df,by have:=s.hl;omega⟩⟩
  have:=ht.len_mono (a:=j+1) l.length (by omega) (Nat.le_refl _)
  have h2:t.len l.length=H'.length:=by unfold ZcF.len;rw[ht.h1]
  omega
 ·have hf:∀j,(Array.replicate os.size false).getD j false=false:=fun j=>by
   by_cases hj:j<os.size<;>simp[Array.getD_eq_getD_getElem?,hj]
  obtain⟨K,g1,g2,g3,g4,g5⟩:=Zx6 ht (D:=fun j=>(Array.replicate os.size false).getD j false) (s:=0) (Nat.zero_le _) okd (by rw[ht.h0];exact hH) (fun m p _ hm=>by omega) (fun m p _ _ _=>hf m)
  refine⟨fun j o _ hd=>(by rw[hf j] at hd;cases hd),⟨K,_,e,g1,g2,g3,(x.trans xd).trans g4,g5,rfl,fun i hi _=>hM i hi,g4.envOK okd.b01 (xd.envOK ok.b01 hE),fun j p d _ _ hd=>(by rw[hf j] at hd;cases hd),fun d _=>rfl⟩,s.tm,s.df⟩
 ·exact Nat.le_trans List.countP_le_length (by simp)
theorem Zx2 {P:Program}{G:Zbv}{Γ:Ctx} (hall:∀f fn,Γ.code f=some fn→Zad P G (fun N=>Zs P G N) f fn=true∨Zoc P f fn):ZgY P G (evW Γ):=
 ZCi (fun _ _ _=>ZA9) hall
end Go.Proofs.YtgcfmiajkbbmeaaGreatDoorE
namespace Go.Proofs.YtgcfmiajkbbmeaaGreatDoor
open Go Go.Proofs.YtgcfmiajkbbmeaaGreatDoorE
open Go.IntKind (u64 i64 u32 i32 u8)
def ZBU:List (IntKind×Int):=[(.u8,0),(.u8,1),(.u8,28),(.u8,2),(.u8,29),(.u8,14),(.u8,24),(.u8,3),(.u8,30),(.u8,22),(.u8,20),(.u8,15),(.u8,25),(.u8,17),(.u8,4),(.u8,8),(.u8,31),(.u8,27),(.u8,13),(.u8,23),(.u8,21),(.u8,19),(.u8,16),(.u8,7),(.u8,26),(.u8,12),(.u8,18),(.u8,6),(.u8,11),(.u8,5),(.u8,10),(.u8,9)]
def ZBD:List (IntKind×Int):=[(.u8,0),(.u8,1),(.u8,56),(.u8,2),(.u8,57),(.u8,49),(.u8,28),(.u8,3),(.u8,61),(.u8,58),(.u8,42),(.u8,50),(.u8,38),(.u8,29),(.u8,17),(.u8,4),(.u8,62),(.u8,47),(.u8,59),(.u8,36),(.u8,45),(.u8,43),(.u8,51),(.u8,22),(.u8,53),(.u8,39),(.u8,33),(.u8,30),(.u8,24),(.u8,18),(.u8,12),(.u8,5),(.u8,63),(.u8,55),(.u8,48),(.u8,27),(.u8,60),(.u8,41),(.u8,37),(.u8,16),(.u8,46),(.u8,35),(.u8,44),(.u8,21),(.u8,52),(.u8,32),(.u8,23),(.u8,11),(.u8,54),(.u8,26),(.u8,40),(.u8,15),(.u8,34),(.u8,20),(.u8,31),(.u8,10),(.u8,25),(.u8,14),(.u8,19),(.u8,9),(.u8,13),(.u8,8),(.u8,7),(.u8,6)]
def Zj:Zbv
 | 0=>some ZBU
 | 1=>some ZBD
 | _=>none
theorem ok7:Zad Tryz.prog Zj (fun N=>Zs Tryz.prog Zj N) 7 fn7=true:=by kernel_rfl
theorem ok9:Zad Tryz.prog Zj (fun N=>Zs Tryz.prog Zj N) 9 fn9=true:=by kernel_rfl
theorem ZGI:Zad Tryz.prog Zj (fun N=>Zs Tryz.prog Zj N) 10 ZB7=true:=by kernel_rfl
theorem ZHY:Zad Tryz.prog Zj (fun N=>Zs Tryz.prog Zj N) 11 ZC9=true:=by kernel_rfl
theorem ZH5:Zad Tryz.prog Zj (fun N=>Zs Tryz.prog Zj N) 12 ZCr=true:=by kernel_rfl
theorem ZHp:Zad Tryz.prog Zj (fun N=>Zs Tryz.prog Zj N) 13 ZC1=true:=by kernel_rfl
theorem ZHG:Zad Tryz.prog Zj (fun N=>Zs Tryz.prog Zj N) 14 ZDj=true:=by kernel_rfl
theorem ZIe:Zad Tryz.prog Zj (fun N=>Zs Tryz.prog Zj N) 16 ZDg=true:=by kernel_rfl
theorem ZHl:Zad Tryz.prog Zj (fun N=>Zs Tryz.prog Zj N) 21 ZFE=true:=by kernel_rfl
theorem ZIc:Zad Tryz.prog Zj (fun N=>Zs Tryz.prog Zj N) 23 ZGm=true:=by kernel_rfl
theorem ZId:Zad Tryz.prog Zj (fun N=>Zs Tryz.prog Zj N) 26 ZDI=true:=by kernel_rfl
theorem ZHe:Zad Tryz.prog Zj (fun N=>Zs Tryz.prog Zj N) 27 ZDC=true:=by kernel_rfl
theorem ZGF:Zad Tryz.prog Zj (fun N=>Zs Tryz.prog Zj N) 30 ZCf=true:=by kernel_rfl
theorem ZGG:Zad Tryz.prog Zj (fun N=>Zs Tryz.prog Zj N) 31 ZCs=true:=by kernel_rfl
theorem ZG6:Zad Tryz.prog Zj (fun N=>Zs Tryz.prog Zj N) 32 ZCo=true:=by kernel_rfl
theorem ZH8:Zad Tryz.prog Zj (fun N=>Zs Tryz.prog Zj N) 33 ZC7=true:=by kernel_rfl
theorem ZGW:Zad Tryz.prog Zj (fun N=>Zs Tryz.prog Zj N) 41 ZE7=true:=by kernel_rfl
theorem ZHR:Zad Tryz.prog Zj (fun N=>Zs Tryz.prog Zj N) 42 ZGw=true:=by kernel_rfl
theorem ZH7:Zad Tryz.prog Zj (fun N=>Zs Tryz.prog Zj N) 43 ZFn=true:=by kernel_rfl
theorem ZHM:Zad Tryz.prog Zj (fun N=>Zs Tryz.prog Zj N) 44 Zxl=true:=by kernel_rfl
theorem ZGC:Zad Tryz.prog Zj (fun N=>Zs Tryz.prog Zj N) 45 ZCG=true:=by kernel_rfl
theorem ZGB:Zad Tryz.prog Zj (fun N=>Zs Tryz.prog Zj N) 46 ZCH=true:=by kernel_rfl
theorem ZGR:Zad Tryz.prog Zj (fun N=>Zs Tryz.prog Zj N) 47 ZB6=true:=by kernel_rfl
theorem ZIa:Zad Tryz.prog Zj (fun N=>Zs Tryz.prog Zj N) 48 ZCQ=true:=by kernel_rfl
theorem ZHu:Zad Tryz.prog Zj (fun N=>Zs Tryz.prog Zj N) 51 ZCE=true:=by kernel_rfl
theorem ZH4:Zad Tryz.prog Zj (fun N=>Zs Tryz.prog Zj N) 52 ZDf=true:=by kernel_rfl
theorem ZG7:Zad Tryz.prog Zj (fun N=>Zs Tryz.prog Zj N) 53 ZDm=true:=by kernel_rfl
theorem ZHm:Zad Tryz.prog Zj (fun N=>Zs Tryz.prog Zj N) 54 ZCv=true:=by kernel_rfl
theorem ZHb:Zad Tryz.prog Zj (fun N=>Zs Tryz.prog Zj N) 60 ZDs=true:=by kernel_rfl
theorem ZHC:Zad Tryz.prog Zj (fun N=>Zs Tryz.prog Zj N) 63 ZCN=true:=by kernel_rfl
theorem ZHs:Zad Tryz.prog Zj (fun N=>Zs Tryz.prog Zj N) 65 ZDp=true:=by kernel_rfl
theorem ZHv:Zad Tryz.prog Zj (fun N=>Zs Tryz.prog Zj N) 66 ZE1=true:=by kernel_rfl
theorem ZH1:Zad Tryz.prog Zj (fun N=>Zs Tryz.prog Zj N) 67 ZCp=true:=by kernel_rfl
theorem ZHS:Zad Tryz.prog Zj (fun N=>Zs Tryz.prog Zj N) 68 ZAA=true:=by kernel_rfl
theorem ZHT:Zad Tryz.prog Zj (fun N=>Zs Tryz.prog Zj N) 69 ZC6=true:=by kernel_rfl
theorem ZHa:Zad Tryz.prog Zj (fun N=>Zs Tryz.prog Zj N) 70 ZC0=true:=by kernel_rfl
theorem ZH9:Zad Tryz.prog Zj (fun N=>Zs Tryz.prog Zj N) 71 ZCO=true:=by kernel_rfl
theorem ZH2:Zad Tryz.prog Zj (fun N=>Zs Tryz.prog Zj N) 72 ZB3=true:=by kernel_rfl
theorem ZHj:Zad Tryz.prog Zj (fun N=>Zs Tryz.prog Zj N) 73 ZCg=true:=by kernel_rfl
theorem ZG8:Zad Tryz.prog Zj (fun N=>Zs Tryz.prog Zj N) 74 ZCR=true:=by kernel_rfl
theorem ZHF:Zad Tryz.prog Zj (fun N=>Zs Tryz.prog Zj N) 75 ZCq=true:=by kernel_rfl
theorem ZG0:Zad Tryz.prog Zj (fun N=>Zs Tryz.prog Zj N) 85 ZB8=true:=by kernel_rfl
theorem ZHg:Zad Tryz.prog Zj (fun N=>Zs Tryz.prog Zj N) 88 ZCP=true:=by kernel_rfl
theorem ZGJ:Zad Tryz.prog Zj (fun N=>Zs Tryz.prog Zj N) 89 ZE0=true:=by kernel_rfl
theorem ZHH:Zad Tryz.prog Zj (fun N=>Zs Tryz.prog Zj N) 90 ZFD=true:=by kernel_rfl
theorem ZHf:Zad Tryz.prog Zj (fun N=>Zs Tryz.prog Zj N) 91 ZER=true:=by kernel_rfl
theorem ZH6:Zad Tryz.prog Zj (fun N=>Zs Tryz.prog Zj N) 92 ZDB=true:=by kernel_rfl
theorem ZHE:Zad Tryz.prog Zj (fun N=>Zs Tryz.prog Zj N) 93 ZFo=true:=by kernel_rfl
theorem ZGX:Zad Tryz.prog Zj (fun N=>Zs Tryz.prog Zj N) 94 Zvh=true:=by kernel_rfl
theorem ZGQ:Zad Tryz.prog Zj (fun N=>Zs Tryz.prog Zj N) 95 ZCJ=true:=by kernel_rfl
theorem ZGE:Zad Tryz.prog Zj (fun N=>Zs Tryz.prog Zj N) 96 ZCl=true:=by kernel_rfl
theorem ZHJ:Zad Tryz.prog Zj (fun N=>Zs Tryz.prog Zj N) 97 ZCD=true:=by kernel_rfl
theorem ZDr:Zad Tryz.prog Zj (fun N=>Zs Tryz.prog Zj N) 103 Zy3=true:=by kernel_rfl
theorem ZDW:Zad Tryz.prog Zj (fun N=>Zs Tryz.prog Zj N) 104 ZyB=true:=by kernel_rfl
theorem ZET:Zad Tryz.prog Zj (fun N=>Zs Tryz.prog Zj N) 105 ZzK=true:=by kernel_rfl
theorem ZFw:Zad Tryz.prog Zj (fun N=>Zs Tryz.prog Zj N) 109 ZBQ=true:=by kernel_rfl
theorem ZDu:Zad Tryz.prog Zj (fun N=>Zs Tryz.prog Zj N) 110 ZBK=true:=by kernel_rfl
theorem ZGo:Zad Tryz.prog Zj (fun N=>Zs Tryz.prog Zj N) 111 ZxL=true:=by kernel_rfl
theorem ZFe:Zad Tryz.prog Zj (fun N=>Zs Tryz.prog Zj N) 112 ZAc=true:=by kernel_rfl
theorem ZFZ:Zad Tryz.prog Zj (fun N=>Zs Tryz.prog Zj N) 114 ZyQ=true:=by kernel_rfl
theorem ZEc:Zad Tryz.prog Zj (fun N=>Zs Tryz.prog Zj N) 115 Zz2=true:=by kernel_rfl
theorem ZDX:Zad Tryz.prog Zj (fun N=>Zs Tryz.prog Zj N) 116 ZAf=true:=by kernel_rfl
theorem ZEZ:Zad Tryz.prog Zj (fun N=>Zs Tryz.prog Zj N) 117 ZxG=true:=by kernel_rfl
theorem ZEP:Zad Tryz.prog Zj (fun N=>Zs Tryz.prog Zj N) 118 Zzt=true:=by kernel_rfl
theorem ZGg:Zad Tryz.prog Zj (fun N=>Zs Tryz.prog Zj N) 119 Zzm=true:=by kernel_rfl
theorem ZF9:Zad Tryz.prog Zj (fun N=>Zs Tryz.prog Zj N) 120 Zzh=true:=by kernel_rfl
theorem ZEb:Zad Tryz.prog Zj (fun N=>Zs Tryz.prog Zj N) 121 Zyb=true:=by kernel_rfl
theorem ZGv:Zad Tryz.prog Zj (fun N=>Zs Tryz.prog Zj N) 122 ZxT=true:=by kernel_rfl
theorem ZDT:Zad Tryz.prog Zj (fun N=>Zs Tryz.prog Zj N) 123 ZzA=true:=by kernel_rfl
theorem ZEj:Zad Tryz.prog Zj (fun N=>Zs Tryz.prog Zj N) 124 ZwH=true:=by kernel_rfl
theorem ZES:Zad Tryz.prog Zj (fun N=>Zs Tryz.prog Zj N) 125 Zy9=true:=by kernel_rfl
theorem ZFC:Zad Tryz.prog Zj (fun N=>Zs Tryz.prog Zj N) 126 Zzr=true:=by kernel_rfl
theorem ZFY:Zad Tryz.prog Zj (fun N=>Zs Tryz.prog Zj N) 127 Zzw=true:=by kernel_rfl
theorem ZE3:Zad Tryz.prog Zj (fun N=>Zs Tryz.prog Zj N) 128 Zzu=true:=by kernel_rfl
theorem ZDH:Zad Tryz.prog Zj (fun N=>Zs Tryz.prog Zj N) 129 ZzO=true:=by kernel_rfl
theorem ZF2:Zad Tryz.prog Zj (fun N=>Zs Tryz.prog Zj N) 136 Zzn=true:=by kernel_rfl
theorem ZD7:Zad Tryz.prog Zj (fun N=>Zs Tryz.prog Zj N) 142 Zzp=true:=by kernel_rfl
theorem ZDY:Zad Tryz.prog Zj (fun N=>Zs Tryz.prog Zj N) 143 ZzN=true:=by kernel_rfl
theorem ZDv:Zad Tryz.prog Zj (fun N=>Zs Tryz.prog Zj N) 144 Zyl=true:=by kernel_rfl
theorem ZFM:Zad Tryz.prog Zj (fun N=>Zs Tryz.prog Zj N) 145 Zyu=true:=by kernel_rfl
theorem ZEO:Zad Tryz.prog Zj (fun N=>Zs Tryz.prog Zj N) 146 ZAu=true:=by kernel_rfl
theorem ZF5:Zad Tryz.prog Zj (fun N=>Zs Tryz.prog Zj N) 147 ZyR=true:=by kernel_rfl
theorem ZFg:Zad Tryz.prog Zj (fun N=>Zs Tryz.prog Zj N) 148 Zz5=true:=by kernel_rfl
theorem ZD0:Zad Tryz.prog Zj (fun N=>Zs Tryz.prog Zj N) 149 Zwz=true:=by kernel_rfl
theorem ZGr:Zad Tryz.prog Zj (fun N=>Zs Tryz.prog Zj N) 150 Zyh=true:=by kernel_rfl
theorem ZGn:Zad Tryz.prog Zj (fun N=>Zs Tryz.prog Zj N) 156 ZzY=true:=by kernel_rfl
theorem ZGj:Zad Tryz.prog Zj (fun N=>Zs Tryz.prog Zj N) 157 ZAg=true:=by kernel_rfl
theorem ZF8:Zad Tryz.prog Zj (fun N=>Zs Tryz.prog Zj N) 158 ZyO=true:=by kernel_rfl
theorem ZEx:Zad Tryz.prog Zj (fun N=>Zs Tryz.prog Zj N) 159 ZAr=true:=by kernel_rfl
theorem ZEd:Zad Tryz.prog Zj (fun N=>Zs Tryz.prog Zj N) 160 ZzV=true:=by kernel_rfl
theorem ZFU:Zad Tryz.prog Zj (fun N=>Zs Tryz.prog Zj N) 161 Zx9=true:=by kernel_rfl
theorem ZFq:Zad Tryz.prog Zj (fun N=>Zs Tryz.prog Zj N) 165 Zyi=true:=by kernel_rfl
theorem ZGa:Zad Tryz.prog Zj (fun N=>Zs Tryz.prog Zj N) 166 Zyq=true:=by kernel_rfl
theorem ZGl:Zad Tryz.prog Zj (fun N=>Zs Tryz.prog Zj N) 167 ZxW=true:=by kernel_rfl
theorem ZGy:Zad Tryz.prog Zj (fun N=>Zs Tryz.prog Zj N) 168 ZAa=true:=by kernel_rfl
theorem ZDZ:Zad Tryz.prog Zj (fun N=>Zs Tryz.prog Zj N) 169 Zza=true:=by kernel_rfl
theorem ZD4:Zad Tryz.prog Zj (fun N=>Zs Tryz.prog Zj N) 170 ZyJ=true:=by kernel_rfl
theorem ZEA:Zad Tryz.prog Zj (fun N=>Zs Tryz.prog Zj N) 171 ZvX=true:=by kernel_rfl
theorem ZF7:Zad Tryz.prog Zj (fun N=>Zs Tryz.prog Zj N) 172 ZyE=true:=by kernel_rfl
theorem ZFl:Zad Tryz.prog Zj (fun N=>Zs Tryz.prog Zj N) 174 ZzU=true:=by kernel_rfl
theorem ZFh:Zad Tryz.prog Zj (fun N=>Zs Tryz.prog Zj N) 178 ZzH=true:=by kernel_rfl
theorem ZEr:Zad Tryz.prog Zj (fun N=>Zs Tryz.prog Zj N) 179 ZAn=true:=by kernel_rfl
theorem ZDt:Zad Tryz.prog Zj (fun N=>Zs Tryz.prog Zj N) 183 ZB1=true:=by kernel_rfl
theorem ZEK:Zad Tryz.prog Zj (fun N=>Zs Tryz.prog Zj N) 184 ZxI=true:=by kernel_rfl
theorem ZEN:Zad Tryz.prog Zj (fun N=>Zs Tryz.prog Zj N) 185 ZB0=true:=by kernel_rfl
theorem ZEe:Zad Tryz.prog Zj (fun N=>Zs Tryz.prog Zj N) 186 Zys=true:=by kernel_rfl
theorem ZDM:Zad Tryz.prog Zj (fun N=>Zs Tryz.prog Zj N) 187 ZxJ=true:=by kernel_rfl
theorem ZEE:Zad Tryz.prog Zj (fun N=>Zs Tryz.prog Zj N) 190 Zzl=true:=by kernel_rfl
theorem ZEt:Zad Tryz.prog Zj (fun N=>Zs Tryz.prog Zj N) 191 ZAd=true:=by kernel_rfl
theorem ZFm:Zad Tryz.prog Zj (fun N=>Zs Tryz.prog Zj N) 193 Zyv=true:=by kernel_rfl
theorem ZEf:Zad Tryz.prog Zj (fun N=>Zs Tryz.prog Zj N) 194 Zye=true:=by kernel_rfl
theorem ZDw:Zad Tryz.prog Zj (fun N=>Zs Tryz.prog Zj N) 195 ZzC=true:=by kernel_rfl
theorem ZGk:Zad Tryz.prog Zj (fun N=>Zs Tryz.prog Zj N) 196 ZyK=true:=by kernel_rfl
theorem ZEB:Zad Tryz.prog Zj (fun N=>Zs Tryz.prog Zj N) 197 ZyM=true:=by kernel_rfl
theorem ZFR:Zad Tryz.prog Zj (fun N=>Zs Tryz.prog Zj N) 198 ZAk=true:=by kernel_rfl
theorem ZGp:Zad Tryz.prog Zj (fun N=>Zs Tryz.prog Zj N) 199 Zy2=true:=by kernel_rfl
theorem ZDJ:Zad Tryz.prog Zj (fun N=>Zs Tryz.prog Zj N) 200 ZzZ=true:=by kernel_rfl
theorem ZDE:Zad Tryz.prog Zj (fun N=>Zs Tryz.prog Zj N) 201 Zzv=true:=by kernel_rfl
theorem ZEl:Zad Tryz.prog Zj (fun N=>Zs Tryz.prog Zj N) 202 ZBJ=true:=by kernel_rfl
theorem ZEJ:Zad Tryz.prog Zj (fun N=>Zs Tryz.prog Zj N) 203 ZAp=true:=by kernel_rfl
theorem ZFT:Zad Tryz.prog Zj (fun N=>Zs Tryz.prog Zj N) 212 ZzM=true:=by kernel_rfl
theorem ZDy:Zad Tryz.prog Zj (fun N=>Zs Tryz.prog Zj N) 213 ZzS=true:=by kernel_rfl
theorem ZEu:Zad Tryz.prog Zj (fun N=>Zs Tryz.prog Zj N) 214 Zzk=true:=by kernel_rfl
theorem ZFV:Zad Tryz.prog Zj (fun N=>Zs Tryz.prog Zj N) 215 Zy0=true:=by kernel_rfl
theorem ZE8:Zad Tryz.prog Zj (fun N=>Zs Tryz.prog Zj N) 216 Zyn=true:=by kernel_rfl
theorem ZEo:Zad Tryz.prog Zj (fun N=>Zs Tryz.prog Zj N) 217 ZxR=true:=by kernel_rfl
theorem ZDR:Zad Tryz.prog Zj (fun N=>Zs Tryz.prog Zj N) 221 ZyY=true:=by kernel_rfl
theorem ZCx:∀f fn,code f=some fn→Zad Tryz.prog Zj (fun N=>Zs Tryz.prog Zj N) f fn=true∨Zoc Tryz.prog f fn:=by
 intro f fn h
 unfold code at h
 split at h
 ·cases h;exact .inl ok7
 ·cases h;exact .inl ok9
 ·cases h;exact .inl ZGI
 ·cases h;exact .inl ZHY
 ·cases h;exact .inl ZH5
 ·cases h;exact .inl ZHp
 ·cases h;exact .inl ZHG
 ·cases h;exact .inl ZIe
 ·cases h;exact .inl ZHl
 ·cases h;exact .inl ZIc
 ·cases h;exact .inl ZId
 ·cases h;exact .inl ZHe
 ·cases h;exact .inl ZGF
 ·cases h;exact .inl ZGG
 ·cases h;exact .inl ZG6
 ·cases h;exact .inl ZH8
 ·cases h;exact .inl ZGW
 ·cases h;exact .inl ZHR
 ·cases h;exact .inl ZH7
 ·cases h;exact .inl ZHM
 ·cases h;exact .inl ZGC
 ·cases h;exact .inl ZGB
 ·cases h;exact .inl ZGR
 ·cases h;exact .inl ZIa
 ·cases h;exact .inl ZHu
 ·cases h;exact .inl ZH4
 ·cases h;exact .inl ZG7
 ·cases h;exact .inl ZHm
 ·cases h;exact .inl ZHb
 ·cases h;exact .inl ZHC
 ·cases h;exact .inl ZHs
 ·cases h;exact .inl ZHv
 ·cases h;exact .inl ZH1
 ·cases h;exact .inl ZHS
 ·cases h;exact .inl ZHT
 ·cases h;exact .inl ZHa
 ·cases h;exact .inl ZH9
 ·cases h;exact .inl ZH2
 ·cases h;exact .inl ZHj
 ·cases h;exact .inl ZG8
 ·cases h;exact .inl ZHF
 ·cases h;exact .inl ZG0
 ·cases h;exact .inl ZHg
 ·cases h;exact .inl ZGJ
 ·cases h;exact .inl ZHH
 ·cases h;exact .inl ZHf
 ·cases h;exact .inl ZH6
 ·cases h;exact .inl ZHE
 ·cases h;exact .inl ZGX
 ·cases h;exact .inl ZGQ
 ·cases h;exact .inl ZGE
 ·cases h;exact .inl ZHJ
 ·cases h;exact .inl ZDr
 ·cases h;exact .inl ZDW
 ·cases h;exact .inl ZET
 ·cases h;exact .inl ZFw
 ·cases h;exact .inl ZDu
 ·cases h;exact .inl ZGo
 ·cases h;exact .inl ZFe
 ·cases h;exact .inl ZFZ
 ·cases h;exact .inl ZEc
 ·cases h;exact .inl ZDX
 ·cases h;exact .inl ZEZ
 ·cases h;exact .inl ZEP
 ·cases h;exact .inl ZGg
 ·cases h;exact .inl ZF9
 ·cases h;exact .inl ZEb
 ·cases h;exact .inl ZGv
 ·cases h;exact .inl ZDT
 ·cases h;exact .inl ZEj
 ·cases h;exact .inl ZES
 ·cases h;exact .inl ZFC
 ·cases h;exact .inl ZFY
 ·cases h;exact .inl ZE3
 ·cases h;exact .inl ZDH
 ·cases h;exact .inl ZF2
 ·cases h;exact .inl ZD7
 ·cases h;exact .inl ZDY
 ·cases h;exact .inl ZDv
 ·cases h;exact .inl ZFM
 ·cases h;exact .inl ZEO
 ·cases h;exact .inl ZF5
 ·cases h;exact .inl ZFg
 ·cases h;exact .inl ZD0
 ·cases h;exact .inl ZGr
 ·cases h;exact .inl ZGn
 ·cases h;exact .inl ZGj
 ·cases h;exact .inl ZF8
 ·cases h;exact .inl ZEx
 ·cases h;exact .inl ZEd
 ·cases h;exact .inl ZFU
 ·cases h;exact .inl ZFq
 ·cases h;exact .inl ZGa
 ·cases h;exact .inl ZGl
 ·cases h;exact .inl ZGy
 ·cases h;exact .inl ZDZ
 ·cases h;exact .inl ZD4
 ·cases h;exact .inl ZEA
 ·cases h;exact .inl ZF7
 ·cases h;exact .inl ZFl
 ·cases h;exact .inl ZFh
 ·cases h;exact .inl ZEr
 ·cases h;exact .inl ZDt
 ·cases h;exact .inl ZEK
 ·cases h;exact .inl ZEN
 ·cases h;exact .inl ZEe
 ·cases h;exact .inl ZDM
 ·cases h;exact .inl ZEE
 ·cases h;exact .inl ZEt
 ·cases h;exact .inl ZFm
 ·cases h;exact .inl ZEf
 ·cases h;exact .inl ZDw
 ·cases h;exact .inl ZGk
 ·cases h;exact .inl ZEB
 ·cases h;exact .inl ZFR
 ·cases h;exact .inl ZGp
 ·cases h;exact .inl ZDJ
 ·cases h;exact .inl ZDE
 ·cases h;exact .inl ZEl
 ·cases h;exact .inl ZEJ
 ·cases h;exact .inl ZFT
 ·cases h;exact .inl ZDy
 ·cases h;exact .inl ZEu
 ·cases h;exact .inl ZFV
 ·cases h;exact .inl ZE8
 ·cases h;exact .inl ZEo
 ·cases h;exact .inl ZDR
 ·cases h
theorem ZEW:∀f fn,ctx.code f=some fn→Zad Tryz.prog Zj (fun N=>Zs Tryz.prog Zj N) f fn=true∨Zoc Tryz.prog f fn:=ZCx
theorem ZE5:ZgY Tryz.prog Zj (evW ctx):=Zx2 ZEW
end Go.Proofs.YtgcfmiajkbbmeaaGreatDoor
namespace Go.Proofs.YtgcfmiajkbbmeaaGreatDoorE
open Go
open Go.IntKind (u64 i64 u32 i32 u8)
inductive Lf where
 | bool | int (k:IntKind) | str | sl (ag:Bool) (els:List Lf)
mutual
def ZA5:Lf→D→Prop
 | .bool,x=>∃b,x = .bool b
 | .int k,x=>∃n,x = .int k n∧(Lit.int k n).wf=true
 | .str,x=>∃s,x = .str s∧s.size≤maxLen
 | .sl ag els,x=>∃xs,x = .list true xs∧xs.length≤maxLen∧∀y∈xs,y.isAgg=ag∧Zg7 els y.cells
def Zg7:List Lf→List D→Prop
 | [],ds=>ds=[]
 | l :: ls,ds=>∃d r,ds=d :: r∧ZA5 l d∧Zg7 ls r
end
def ZkM (P:Program) (g:TypeId→Option (List Lf×Bool)):Nat→List Field→Option (List Lf)
 | _,[]=>some []
 | off,f :: fs=>match g f.type with
  | some (l,_)=>(match ZkM P g (off+l.length) fs with
   | some r=>bif Nat.beq f.offset off&&Nat.beq (P.cellsOf f.type) l.length then some (l++r) else none
   | none=>none)
  | none=>none
def lfs (P:Program):Nat→TypeId→Option (List Lf×Bool)
 | 0,_=>none
 | n+1,t=>match P.underlying t with
  | some .bool=>some ([.bool],false)
  | some (.int k)=>some ([.int k],false)
  | some .string=>some ([.str],false)
  | some (.slice e)=>(match lfs P n e with | some (l,ag)=>bif Nat.beq (P.cellsOf e) l.length&&Nat.blt 0 l.length then some ([.sl ag l],false) else none | none=>none)
  | some (.struct fs)=>(match ZkM P (lfs P n) 0 fs.toList with | some l=>bif Nat.beq (P.cellsOf t) l.length then some (l,true) else none | none=>none)
  | _=>none
mutual
theorem Zug:∀(l:Lf) (x:D),ZA5 l x→x.esc=true∧x.isAgg=false∧x.cells=[x]
 | .bool,x,h=>by obtain⟨b,rfl⟩:=h;exact⟨rfl,rfl,rfl⟩
 | .int k,x,h=>by obtain⟨n,rfl,_⟩:=h;exact⟨rfl,rfl,rfl⟩
 | .str,x,h=>by obtain⟨s,rfl,_⟩:=h;exact⟨rfl,rfl,rfl⟩
 | .sl ag els,x,h=>by obtain⟨xs,rfl,_⟩:=h;exact⟨rfl,rfl,rfl⟩
theorem Zsg:∀(ls:List Lf) (ds:List D),Zg7 ls ds→D.escs ds=true∧ds.length=ls.length
 | [],ds,h=>by obtain rfl:=h;exact⟨rfl,rfl⟩
 | l :: ls,ds,h=>by
  obtain⟨d,r,rfl,h1,h2⟩:=h
  obtain⟨e1,e2,_⟩:=Zug l d h1
  obtain⟨e3,e4⟩:=Zsg ls r h2
  exact⟨by simp[D.escs,e1,e2,e3],by simp[e4]⟩
end
theorem Zr2:∀(l r:List Lf) (ds es:List D),Zg7 l ds→Zg7 r es→Zg7 (l++r) (ds++es)
 | [],r,ds,es,h,k=>by obtain rfl:=h;exact k
 | a :: l,r,ds,es,h,k=>by
  obtain⟨d,ds',rfl,h1,h2⟩:=h
  exact⟨d,ds'++es,rfl,h1,Zr2 l r ds' es h2 k⟩
section
variable {H:Type} {enc:TypeId×Value→H} {P:Program} {W:World} {sp:Nat→Bool} {held:Bool}
abbrev All:Nat→Prop:=fun _=>True
theorem Zr6:∀(ds es:List D) (us vs:List Value),Za9 All All All W ds us→Za9 All All All W es vs→Za9 All All All W (ds++es) (us++vs)
 | [],es,us,vs,h,k=>by obtain rfl:=h;exact k
 | x :: ds,es,us,vs,h,k=>by
  obtain⟨u,us',rfl,h1,h2⟩:=h
  exact⟨u,us'++vs,rfl,h1,Zr6 ds es us' vs h2 k⟩
theorem ZtP {a:Addr}{n:Nat}{cs:List Value} (h:W.cells? 0 a n=some cs):cs.length=n∧∀k,k<n→W.cell? (a.add k)=cs[k]?:=by
 unfold World.cells? at h
 rw[if_pos (Nat.zero_le _)] at h
 exact⟨by simpa using mapM_some_length h,fun k hk=>mapM_some_get h k k (by simp[hk])⟩
theorem ZrF {g:TypeId→Option (List Lf×Bool)}{m:Nat}{cs:List Value}
  (hg:∀t l ag cs x,g t=some (l,ag)→DataW.trod enc P W 0 sp held m t cs=some x→∃ds,Za9 All All All W ds cs∧Zg7 l ds) :
  ∀(fs:List Field) (off:Nat) (l:List Lf) (xs:List (DataW H×List MemPlace)),ZkM P g off fs=some l→xs.length=fs.length→off+l.length≤cs.length →
   (∀(i:Nat) f,fs[i]? = some f→DataW.trod enc P W 0 sp held m f.type ((cs.drop f.offset).take (P.cellsOf f.type))=xs[i]?)→∃ds,Za9 All All All W ds ((cs.drop off).take l.length)∧Zg7 l ds
 | [],off,l,xs,h,_,_,_=>by
  simp only[ZkM,Option.some.injEq] at h
  subst h
  exact⟨[],by simp[Za9],rfl⟩
 | f :: fs,off,l,xs,h,hl,hle,hx=>by
  simp only[ZkM] at h
  cases hgf:g f.type with
  | none=>rw[hgf] at h;cases h
  | some q=>
   obtain⟨l1,ag⟩:=q
   rw[hgf] at h
   dsimp only at h
   cases hr:ZkM P g (off+l1.length) fs with
   | none=>rw[hr] at h;cases h
   | some r=>
    rw[hr] at h
    dsimp only at h
    cases hc:(Nat.beq f.offset off&&Nat.beq (P.cellsOf f.type) l1.length) with
    | false=>rw[hc] at h;cases h
    | true=>
     rw[hc] at h
     simp only[cond_true,Option.some.injEq] at h
     subst h
     simp only[Bool.and_eq_true] at hc
     have h1:=Nat.eq_of_beq_eq_true hc.1
     have h2:=Nat.eq_of_beq_eq_true hc.2
     rw[List.length_append] at hle
     cases xs with
     | nil=>simp at hl
     | cons x xs=>
      have hx0:=hx 0 f rfl
      rw[h1,h2] at hx0
      simp only[List.getElem?_cons_zero] at hx0
      obtain⟨d1,e1,e2⟩:=hg f.type l1 ag _ x hgf hx0
      obtain⟨d2,e3,e4⟩:=ZrF (cs:=cs) hg fs (off+l1.length) r xs hr (by simpa using hl) (by omega) (fun i f' hf'=>by simpa using hx (i+1) f' (by simpa using hf'))
      refine⟨d1++d2,?_,Zr2 _ _ _ _ e2 e4⟩
      have hspl:(cs.drop off).take (l1++r).length=(cs.drop off).take l1.length++(cs.drop (off+l1.length)).take r.length:=by
       rw[List.length_append,List.take_add,List.drop_drop]
      rw[hspl]
      exact Zr6 _ _ _ _ e1 e3
theorem ZqL:∀(n:Nat) (t:TypeId) (l:List Lf) (ag:Bool),lfs P n t=some (l,ag)→∀(fuel:Nat) (cs:List Value) (x:DataW H×List MemPlace),DataW.trod enc P W 0 sp held fuel t cs=some x →
  ∃ds,Za9 All All All W ds cs∧Zg7 l ds∧(ag=false→∃u y,cs=[u]∧ds=[y]∧u.cells = #[u]∧y.isAgg=false)
 | 0,t,l,ag,h,fuel,cs,x,hx=>by cases h
 | n+1,t,l,ag,h,fuel,cs,x,hx=>by
  simp only[lfs] at h
  split at h
  ·rename_i ht
   cases h
   obtain⟨b,rfl,_⟩:=DataW.trod_bool ht hx
   exact⟨[.bool b],⟨_,_,rfl,rfl,rfl⟩,⟨_,_,rfl,⟨b,rfl⟩,rfl⟩,fun _=>⟨_,_,rfl,rfl,rfl,rfl⟩⟩
  ·rename_i k ht
   cases h
   obtain⟨m,rfl,_,hw⟩:=DataW.trod_int ht hx
   exact⟨[.int k m],⟨_,_,rfl,rfl,rfl⟩,⟨_,_,rfl,⟨m,rfl,hw⟩,rfl⟩,fun _=>⟨_,_,rfl,rfl,rfl,rfl⟩⟩
  ·rename_i ht
   cases h
   obtain⟨s,rfl,_,hs⟩:=DataW.trod_string ht hx
   exact⟨[.str s],⟨_,_,rfl,rfl,rfl⟩,⟨_,_,rfl,⟨s,rfl,hs⟩,rfl⟩,fun _=>⟨_,_,rfl,rfl,rfl,rfl⟩⟩
  ·rename_i e ht
   cases he:lfs P n e with
   | none=>rw[he] at h;cases h
   | some q=>
    obtain⟨le,age⟩:=q
    rw[he] at h
    dsimp only at h
    cases hc:(Nat.beq (P.cellsOf e) le.length&&Nat.blt 0 le.length) with
    | false=>rw[hc] at h;cases h
    | true=>
     rw[hc] at h
     simp only[cond_true,Option.some.injEq,Prod.mk.injEq] at h
     obtain⟨rfl,rfl⟩:=h
     simp only[Bool.and_eq_true] at hc
     have hsz:=Nat.eq_of_beq_eq_true hc.1
     have hpos:0<le.length:=by have:=hc.2;simp[Nat.blt] at this;omega
     rcases Go.Deep.open_slice ht hx with⟨rfl,_⟩ | ⟨a,len,cap,m,fu,Dd,Pl,rfl,_,hlc,hcap,hm,_,hel⟩
     ·exact⟨[.list true []],⟨_,_,rfl,⟨_,0,0,rfl,rfl,Nat.le_refl _,by simp,by simp⟩,rfl⟩,⟨_,_,rfl,⟨[],rfl,by simp,by simp⟩,rfl⟩,fun _=>⟨_,_,rfl,rfl,rfl,rfl⟩⟩
     ·rw[hsz] at hel
      have hlm:len≤m:=by rw[hm];split<;>omega
      have each:∀i,i<len→∃y u,Zbp All All All W y u∧y.isAgg=age∧Zg7 le y.cells∧u.cells.size=le.length∧(∀k v,u.cells[k]? = some v→W.cell? ((a.add (i*le.length)).add k)=some v)∧y.esc=true:=fun i hi=>by
       obtain⟨cs',h1,h2⟩:=hel i (by omega)
       obtain⟨c1,c2⟩:=ZtP h1
       obtain⟨ds,d1,d2,d3⟩:=ZqL n e le age he fu cs' _ h2
       obtain⟨s1,s2⟩:=Zsg _ _ d2
       cases age with
       | true=>
        refine⟨.agg ds,.agg cs'.toArray,⟨cs',rfl,d1⟩,rfl,d2,by simpa [Value.cells] using c1,fun k v hk=>?_,s1⟩
        have hk':cs'[k]? = some v:=by simpa [Value.cells] using hk
        rw[c2 k (by rw[← c1];exact(List.getElem?_eq_some_iff.1 hk').1)];exact hk'
       | false=>
        obtain⟨u,y,rfl,rfl,e1,e2⟩:=d3 rfl
        obtain⟨u',us',f1,f2,_⟩:=d1
        cases f1
        have hy:y.cells=[y]:=by
         cases y<;>first | rfl | (simp[D.isAgg] at e2)
        have hesc:y.esc=true:=by
         match le,d2,hpos with
         | l0 :: ls,d2,_=>
          obtain⟨d,r,g1,g2,_⟩:=d2
          cases g1
          exact(Zug l0 y g2).1
        refine⟨y,u,f2,e2,by rw[hy];exact d2,by rw[e1,← c1];rfl,fun k v hk=>?_,hesc⟩
        rw[e1] at hk
        have hk0:k=0:=by
         have:=(Array.getElem?_eq_some_iff.1 hk).1;simp at this;exact this
        subst hk0
        simp at hk;subst hk
        rw[c2 0 (by omega)];rfl
      have all:∀j,j≤len→∃ys:List D,ys.length=j∧(∀y∈ys,y.isAgg=age∧Zg7 le y.cells∧y.esc=true)∧∀(i:Nat) y,ys[i]? = some y→∃u,Zbp All All All W y u∧u.cells.size=le.length∧∀k v,u.cells[k]? = some v→W.cell? ((a.add (i*le.length)).add k)=some v:=by
       intro j
       induction j with
       | zero=>intro _;exact⟨[],rfl,by simp,by simp⟩
       | succ j ih=>
        intro hj
        obtain⟨ys,y1,y2,y3⟩:=ih (by omega)
        obtain⟨y,u,z1,z2,z3,z4,z5,z6⟩:=each j (by omega)
        refine⟨ys++[y],by simp[y1],fun z hz=>?_,fun i z hz=>?_⟩
        ·rcases List.mem_append.1 hz with hz | hz
         ·exact y2 z hz
         ·simp at hz;subst hz;exact⟨z2,z3,z6⟩
        ·by_cases hi:i<ys.length
         ·rw[List.getElem?_append_left hi] at hz;exact y3 i z hz
         ·rw[List.getElem?_append_right (by omega)] at hz
          have hij:i-ys.length=0:=by
           have:=(List.getElem?_eq_some_iff.1 hz).1;simp at this;omega
          rw[hij] at hz
          simp at hz;subst hz
          have:i=j:=by omega
          subst this
          exact⟨u,z1,z4,z5⟩
      obtain⟨ys,y1,y2,y3⟩:=all len (Nat.le_refl _)
      refine⟨[.list true ys],⟨_,_,rfl,⟨_,len,cap,rfl,y1.symm,hlc,fun z hz=>(y2 z hz).2.2,fun hne=>?_⟩,rfl⟩,⟨_,_,rfl,⟨ys,rfl,by omega,fun z hz=>⟨(y2 z hz).1,(y2 z hz).2.1⟩⟩,rfl⟩,fun _=>⟨_,_,rfl,rfl,rfl,rfl⟩⟩
      have hlen:0<len:=by
       rw[← y1];exact List.length_pos_iff.2 hne
      obtain⟨cs0,h1,_⟩:=hel 0 (by omega)
      obtain⟨c1,c2⟩:=ZtP h1
      have c3:=c2 0 hpos
      have hcell:∃v,W.cell? a=some v:=by
       refine⟨cs0[0]'(by omega),?_⟩
       have e0:(a.add (0*le.length)).add 0=a:=by simp[Addr.add]
       rw[e0] at c3
       rw[c3];exact List.getElem?_eq_getElem (by omega)
      obtain⟨v,hv⟩:=hcell
      have hspot:a.spot=none∧a.block<W.heap.size:=by
       unfold World.cell? at hv
       split at hv
       ·rename_i hb
        cases hsx:a.spot with
        | none=>exact⟨rfl,(Array.getElem?_eq_some_iff.1 hb).1⟩
        | some z=>rw[hsx] at hv;simp at hv
       ·cases hv
      obtain⟨b,off,spot⟩:=a
      obtain⟨hs1,hs2⟩:=hspot
      simp only at hs1 hs2
      subst hs1
      refine⟨b,off,le.length,rfl,trivial,hs2,Zkk ys off fun j y hj=>?_⟩
      obtain⟨u,u1,u2,u3⟩:=y3 j y hj
      refine⟨u,u1,u2,fun k v hk=>?_⟩
      rw[← u3 k v hk]
      congr 1
      unfold Addr.add
      by_cases hj0:j*le.length=0
      ·by_cases hk0:k=0<;>simp[hj0,hk0]
      ·by_cases hk0:k=0<;>simp[hj0,hk0]
  ·rename_i fs ht
   cases hf:ZkM P (lfs P n) 0 fs.toList with
   | none=>rw[hf] at h;cases h
   | some l'=>
    rw[hf] at h
    dsimp only at h
    cases hc:Nat.beq (P.cellsOf t) l'.length with
    | false=>rw[hc] at h;cases h
    | true=>
     rw[hc] at h
     simp only[cond_true,Option.some.injEq,Prod.mk.injEq] at h
     obtain⟨rfl,rfl⟩:=h
     have hcl:=Nat.eq_of_beq_eq_true hc
     obtain⟨xs,m,_,_,hlen,hxl,hxs⟩:=DataW.trod_struct ht hx
     have hlen':cs.length=l'.length:=hlen.trans hcl
     obtain⟨ds,e1,e2⟩:=ZrF (m:=m) (cs:=cs) (g:=lfs P n) (fun t l ag cs x hg hx=>by
      obtain⟨ds,d1,d2,_⟩:=ZqL n t l ag hg m cs x hx
      exact⟨ds,d1,d2⟩) fs.toList 0 l' xs hf (by simpa using hxl) (by omega) (fun i f hf'=>hxs i f (by simpa using hf'))
     refine⟨ds,?_,e2,fun h=>by cases h⟩
     have:(cs.drop 0).take l'.length=cs:=by rw[List.drop_zero,List.take_of_length_le (by omega)]
     rw[this] at e1;exact e1
  ·cases h
def ZmU (ag:Bool) (ds:List D):D:=match ag,ds with | true,ds=>.agg ds | false,d :: _=>d | false,[]=>.nilp
theorem ZsG {n:Nat}{t:TypeId}{l:List Lf}{ag:Bool} (h:lfs P n t=some (l,ag)) {base:Nat}{v:Value}{d:DataW H}{ps:List MemPlace} (hv:Value.okWide P W .any base t v) (hx:DataW.Trod enc P W 0 sp held t v d ps) :
  ∃ds,Zg7 l ds∧Zbp All All All W (ZmU ag ds) v:=by
 obtain⟨fuel,hf⟩:=hx
 obtain⟨ds,d1,d2,d3⟩:=ZqL n t l ag h fuel _ _ hf
 refine⟨ds,d2,?_⟩
 have one:ag=false→v.cells = #[v]→Zbp All All All W (ZmU ag ds) v:=fun hag hc=>by
  subst hag
  obtain⟨u,y,e1,rfl,_,_⟩:=d3 rfl
  rw[hc] at e1
  cases e1
  obtain⟨u',us',f1,f2,_⟩:=d1
  rw[hc] at f1
  cases f1
  exact f2
 cases n with
 | zero=>cases h
 | succ n=>
  simp only[lfs] at h
  split at h
  ·rename_i ht
   cases h
   obtain⟨b,rfl⟩:=Go.WideShapes.okWide_bool ht hv
   exact one rfl rfl
  ·rename_i k ht
   cases h
   obtain⟨b,rfl⟩:=Go.WideShapes.okWide_int ht hv
   exact one rfl rfl
  ·rename_i ht
   cases h
   obtain⟨b,rfl⟩:=Go.WideShapes.okWide_string ht hv
   exact one rfl rfl
  ·rename_i e ht
   obtain⟨a,len,cap,rfl⟩:=Go.WideShapes.okWide_slice ht hv
   split at h
   ·rename_i le age hq
    cases hc:(Nat.beq (P.cellsOf e) le.length&&Nat.blt 0 le.length) with
    | false=>rw[hc] at h;cases h
    | true=>rw[hc] at h;cases h;exact one rfl rfl
   ·cases h
  ·rename_i fs ht
   obtain⟨cs,rfl,_⟩:=Go.WideShapes.okWide_struct ht hv
   split at h
   ·rename_i q hq
    cases hc:Nat.beq (P.cellsOf t) q.length with
    | false=>rw[hc] at h;cases h
    | true=>
     rw[hc] at h
     cases h
     exact⟨cs.toList,by simp,by simpa [Value.cells] using d1⟩
   ·cases h
  ·cases h
end
end Go.Proofs.YtgcfmiajkbbmeaaGreatDoorE
namespace Go.Proofs.YtgcfmiajkbbmeaaGreatDoorE
open Go
open Go.IntKind (u64 i64 u32 i32 u8)
def R0:RP:={ B1:=fun _=>False,B0:=fun _=>False,M:=fun _=>none,H:=[] }
section
variable {P:Program} {G:Zbv} {Γ:Ctx} {W:World}
theorem Zk8 (c:Nat):¬R0.live c:=by
 rintro ⟨i,h,_⟩
 simp[R0,Zal,nth] at h
theorem ZDA:R0.OK W where
 b01:=fun c h=>h.elim
 al:=fun i blk h=>by simp[R0] at h
 inj:=fun i j c h=>by simp[R0,Zal,nth] at h
 lt:=fun i c h=>by cases h
 blk:=fun i m blk h=>by simp[R0] at h
 nb:=fun i c h=>by simp[R0,Zal,nth] at h
 bl:=fun c h=>h.elim
theorem ZCu {x:D}{u:Value} (h:Zbp All All All W x u):R0.den W x u:=
 Zbp.change _ _ _ _ (fun b _ _=>⟨Zk8 b,fun h=>h⟩) (fun b _ _=>⟨Zk8 b,fun h=>h⟩) (fun b _ _=>Zk8 b) (fun _ _ _=>rfl) (Nat.le_refl _) (fun _ _=>trivial) (fun _ _=>trivial) x u h
theorem ZAU {xs:List D}{us:List Value} (h:Za9 All All All W xs us):ZaY R0 W (ZcK xs) us:=
 (Zdj xs us).2 (Za9.change _ _ _ _ (fun b _ _=>⟨Zk8 b,fun h=>h⟩) (fun b _ _=>⟨Zk8 b,fun h=>h⟩) (fun b _ _=>Zk8 b) (fun _ _ _=>rfl) (Nat.le_refl _) (fun _ _=>trivial) (fun _ _=>trivial) xs us h)
theorem Zxp (hs:ZgY P G (evW Γ)) (hg:GOK G R0 W) {f:Nat}{xs:List D}{us:List Value} (hd:Za9 All All All W xs us) {H':Zh} (he:evW Γ f (ZcK xs) []=some (.d (.bool true),H')) :
  Calls P f us.toArray W fun e W'=>e = .returned (.bool true)∧Go.RowKit.Below W.heap.size W W':=by
 obtain⟨_,h⟩:=hs f (ZcK xs) [] _ _ he
 refine(h R0 W us ZDA hg rfl (fun i _=>rfl) (ZAU hd)).mono fun e W' ⟨u,h1,R',x,ok,hH,hv,_,_⟩=>?_
 have hu:u = .bool true:=hv
 subst hu
 exact⟨h1,⟨x.os,x.tape,x.output,x.grow,fun k hk=>x.same k hk (Zk8 k)⟩⟩
def ZmY (l:List (IntKind×Int)):List (DataW Unit):=l.map fun q=>.lit (.int q.1 q.2)
theorem Zuo {n:String}{d:DataW Unit}:∀{L:List (String×DataW Unit)}{ps:List MemPlace},DataW.LaidVars P W L ps→(n,d)∈L →
  ∃g t cs fuel p,P.globalNamed n=some g∧(P.globals[g]?).map (·.type)=some t∧W.var? P n=some cs∧DataW.trod (fun _=>()) P W 0 (fun _=>true) false fuel t cs.toList=some (d,p)
 | [],_,_,h=>by cases h
 | (m,e) :: L,ps,h,hm=>by
  obtain⟨g,t,cs,fuel,p,q,h1,h2,h3,h4,h5,_⟩:=h
  rcases List.mem_cons.1 hm with hm | hm
  ·cases hm;exact⟨g,t,cs,fuel,p,h1,h2,h3,h4⟩
  ·exact Zuo h5 hm
theorem ZqJ {L:List (String×DataW Unit)} (h:laidMetH P L W) (hl:(L.all fun x=>x.2.handleName?.isNone)=true) {n:String}{l:List (IntKind×Int)} (hm:(n,DataW.agg (ZmY l))∈L) {g t N e:Nat}{k:IntKind}
  (hg:P.globalNamed n=some g) (ht:(P.globals[g]?).map (·.type)=some t) (hu:P.underlying t=some (.array N e)) (he:P.underlying e=some (.int k)) (hc:P.cellsOf e=1) (hN:l.length=N) (hne:0<N) :
  R0.den W (.rptr (gD l)) (.pointer (some ⟨g,0,none⟩)):=by
 rw[MakeChecks.laidMetH_plain _ _ _ hl] at h
 obtain⟨ps,hL,_,_⟩:=h
 obtain⟨g',t',cs,fuel,p,h1,h2,h3,h4⟩:=Zuo hL hm
 obtain rfl:=Option.some.inj (hg.symm.trans h1)
 obtain rfl:=Option.some.inj (ht.symm.trans h2)
 obtain⟨xs,m,_,hx,hlen,hxn,hel⟩:=DataW.trod_array hu h4
 have hmap:ZmY l=xs.map (·.1):=by
  have:=(Prod.mk.inj hx).1
  exact DataW.agg.inj this
 have cell:∀(i:Nat) q,l[i]? = some q→W.cell? ⟨g,i,none⟩=some (.int q.1 q.2):=fun i q hq=>by
  have hi:i<N:=by rw[← hN];exact(List.getElem?_eq_some_iff.1 hq).1
  have hi2:i<xs.length:=by omega
  have e1:=hel i hi
  rw[List.getElem?_eq_getElem hi2] at e1
  obtain⟨z,z1,z2,_⟩:=DataW.trod_int he e1
  have e3:(ZmY l)[i]? = some (xs[i]'hi2).1:=by rw[hmap];simp[hi2]
  rw[z2] at e3
  have e4:(ZmY l)[i]? = some (.lit (.int q.1 q.2)):=by simp[ZmY,hq]
  rw[e4] at e3
  have e5:q.1=k∧q.2=z:=by
   have:=Option.some.inj e3
   simpa using this
  rw[World.var?_cell h1 h3 i,hc] at *
  have e6:(cs.toList.drop (i*1)).take 1=[.int k z]:=z1
  have e7:cs.toList[i]? = some (.int k z):=by
   have:(cs.toList.drop (i*1))[0]? = some (.int k z):=by
    have h8:((cs.toList.drop (i*1)).take 1)[0]? = some (.int k z):=by rw[e6];rfl
    rwa [List.getElem?_take_of_lt (by omega)] at h8
   simpa using this
  rw[e5.1,e5.2]
  simpa using e7
 have hb:g<W.heap.size:=by
  have:=cell 0 (l[0]'(by omega)) (List.getElem?_eq_getElem (by omega))
  unfold World.cell? at this
  split at this
  ·rename_i hb;exact(Array.getElem?_eq_some_iff.1 hb).1
  ·cases this
 have gd:∀(l:List (IntKind×Int)) (i:Nat) x,(gD l)[i]? = some x→∃q,l[i]? = some q∧x = .int q.1 q.2:=by
  intro l
  induction l with
  | nil=>intro i x h;simp[gD] at h
  | cons a r ih=>
   intro i x h
   obtain⟨k,z⟩:=a
   cases i with
   | zero=>simp[gD] at h;exact⟨(k,z),rfl,h.symm⟩
   | succ i=>simpa using ih i x (by simpa [gD] using h)
 refine ZCu ⟨g,0,rfl,trivial,hb,Zin _ _ fun j x hj=>?_⟩
 obtain⟨q,q1,rfl⟩:=gd l j x hj
 exact⟨_,by rw[Nat.zero_add];exact cell j q q1,rfl⟩
end
end Go.Proofs.YtgcfmiajkbbmeaaGreatDoorE
namespace Go.Proofs.YtgcfmiajkbbmeaaGreatDoorE
open Go
open Go.IntKind (u64 i64 u32 i32 u8)
noncomputable def bnd {α β:Type} (x:Option α) (k:α→Option β):Option β:=@dite _ (∃a,x=some a) (Classical.propDecidable _) (fun h=>k (Classical.choose h)) fun _=>none
theorem ZfU {α β:Type} (x:Option α) (k:α→Option β):bnd x k=(match x with | some a=>k a | none=>none):=by
  unfold bnd
  cases x with
  | none=>exact dif_neg (fun⟨a,h⟩=>by cases h)
  | some a=>
    have h:∃b,some a=some b:=⟨a,rfl⟩
    rw[dif_pos h]
    have:=Classical.choose_spec h
    rw[← Option.some.inj this]
theorem Zl2 {α β:Type} (a:α) (k:α→Option β):bnd (some a) k=k a:=ZfU _ _
section
variable {β:Type}
def ZGL:List Nat:=[0,1,2,3,4,5,6,7,8,9,10,11,12,13,14,15,16,17,18,19,20,21,22,23,24,25,26,27,28,29,30,31,32,33,34,35,36,37,38,39,40,41,42,43,44,45,46,47,48,49,50,51,52,53,54,55,56,57,58,59,60,61,62,63]
def fgo (n:Nat) (k:Nat→Option β):List Nat→Option β
  | []=>k n
  | a :: l=>match Nat.beq n a with | true=>k a | false=>fgo n k l
def Zd1 (n:Nat) (k:Nat→Option β):Option β:=fgo n k ZGL
def ZjK (v:V) (k:V→Option β):Option β:=
  match v with
  | .d x=>k (.d x) | .bad=>k .bad | .ptr b o=>Zd1 b fun b=>Zd1 o fun o=>k (.ptr b o) | .eptr b sz i j=>Zd1 b fun b=>Zd1 j fun j=>k (.eptr b sz i j)
  | .sl b sz=>Zd1 b fun b=>k (.sl b sz) | .slp b sz o l=>Zd1 b fun b=>k (.slp b sz o l) | .nilsl sz=>k (.nilsl sz)
  | .agg cs=>k (.agg cs) | .tup cs=>k (.tup cs) | .fn f cs=>k (.fn f cs) | .mp b=>Zd1 b fun b=>k (.mp b)
def Zku (l:List V) (k:List V→Option β):Option β:=
  match l with
  | []=>k []
  | v :: vs=>ZjK v fun v=>Zku vs fun vs=>k (v :: vs)
def Zst (v:V) (k:V→Option β):Option β:=
  match v with
  | .d x=>k (.d x) | .bad=>k .bad | .ptr b o=>ZjK (.ptr b o) k | .eptr b sz i j=>ZjK (.eptr b sz i j) k
  | .sl b sz=>ZjK (.sl b sz) k | .slp b sz o l=>ZjK (.slp b sz o l) k | .nilsl sz=>k (.nilsl sz)
  | .agg cs=>Zku cs fun cs=>k (.agg cs) | .tup cs=>Zku cs fun cs=>k (.tup cs) | .fn f cs=>Zku cs fun cs=>k (.fn f cs) | .mp b=>ZjK (.mp b) k
def Zjt (l:List V) (k:List V→Option β):Option β:=
  match l with
  | []=>k []
  | v :: vs=>Zst v fun v=>Zjt vs fun vs=>k (v :: vs)
def ZuF (b:Blk) (k:Blk→Option β):Option β:=
  match b with
  | .dead=>k .dead | .cells cs=>Zjt cs fun cs=>k (.cells cs) | .arr sz xs=>k (.arr sz xs) | .mp es=>k (.mp es)
def Zlw (H:Zh) (k:Zh→Option β):Option β:=
  match H with
  | []=>k []
  | b :: bs=>ZuF b fun b=>Zlw bs fun bs=>k (b :: bs)
theorem ZzR (n:Nat) (k:Nat→Option β):∀(l:List Nat),fgo n k l=k n
  | []=>rfl
  | a :: l=>by
    unfold fgo
    cases h:Nat.beq n a with
    | true=>rw[Nat.eq_of_beq_eq_true h]
    | false=>exact ZzR n k l
theorem Zer (n:Nat) (k:Nat→Option β):Zd1 n k=k n:=ZzR n k _
theorem ZpQ (v:V) (k:V→Option β):ZjK v k=k v:=by cases v<;>simp[ZjK,Zer]
theorem ZoT:∀(l:List V) (k:List V→Option β),Zku l k=k l
  | [],k=>rfl
  | v :: vs,k=>by unfold Zku;rw[ZpQ,ZoT vs]
theorem Zss (v:V) (k:V→Option β):Zst v k=k v:=by cases v<;>simp[Zst,ZpQ,ZoT]
theorem Zi8:∀(l:List V) (k:List V→Option β),Zjt l k=k l
  | [],k=>rfl
  | v :: vs,k=>by unfold Zjt;rw[Zss,Zi8 vs]
theorem Zxm (b:Blk) (k:Blk→Option β):ZuF b k=k b:=by cases b<;>simp[ZuF,Zi8]
theorem Zkq:∀(l:Zh) (k:Zh→Option β),Zlw l k=k l
  | [],k=>rfl
  | v :: vs,k=>by unfold Zlw;rw[Zxm,Zkq vs]
def ZkJ (l:List Nat) (k:List Nat→Option β):Option β:=
  match l with
  | []=>k []
  | a :: l=>Zd1 a fun a=>ZkJ l fun l=>k (a :: l)
theorem ZkG:∀(l:List Nat) (k:List Nat→Option β),ZkJ l k=k l
  | [],k=>rfl
  | a :: l,k=>by unfold ZkJ;rw[Zer,ZkG l]
def Zma (H:Zh) (l:List Nat) (bs:List Nat) (k:List Nat→Option β):Option β:=
  match bs with
  | []=>k l
  | b :: bs=>(match ZiD l b || !(Zal H b) with
    | true=>Zma H l bs k
    | false=>ZkJ (l++[b]) fun l=>Zma H l bs k)
theorem ZkI (H:Zh):∀(bs l:List Nat) (k:List Nat→Option β),Zma H l bs k=k (ZgZ H l bs)
  | [],l,k=>rfl
  | b :: bs,l,k=>by
    unfold Zma ZgZ
    cases h:(ZiD l b || !(Zal H b)) with
    | true=>exact ZkI H bs l k
    | false=>simp only[ZkG,cond_false];exact ZkI H bs _ k
def ZsT (H:Zh) (n i:Nat) (l:List Nat) (k:List Nat→Option β):Option β:=
  match n with
  | 0=>k l
  | n+1=>(match nth l i with
    | some b=>ZkJ (Zwl H b) fun bs=>Zma H l bs fun l=>Zd1 (i+1) fun i=>ZsT H n i l k
    | none=>k l)
theorem ZrR (H:Zh):∀(n i:Nat) (l:List Nat) (k:List Nat→Option β),ZsT H n i l k=k (ZlR H n i l)
  | 0,i,l,k=>rfl
  | n+1,i,l,k=>by
    unfold ZsT ZlR
    cases h:nth l i with
    | none=>rfl
    | some b=>simp only[ZkG,Zer,ZkI];exact ZrR H n (i+1) _ k
def ZfB (m:Nat) (vs:List V) (H:Zh) (k:List Nat→List V→Zh→Option β):Option β:=
  Zjt vs fun vs=>ZkJ (Znf m) fun u=>ZkJ (ZiZ vs) fun r=>Zma H u r fun l=>ZsT H (H.length+1) 0 l fun L=>
    (match Zm8 L&&Zq6 H.length L with
    | true=>Zjt (Zi6 (fun b=>idx L b 0) vs) fun vs=>Zlw (pick H (fun b=>idx L b 0) L) fun H=>k L vs H
    | false=>none)
theorem ZdC (m:Nat) (vs:List V) (H:Zh) (k:List Nat→List V→Zh→Option β):ZfB m vs H k=(match extract m vs H with | some (L,vs,H)=>k L vs H | none=>none):=by
  unfold ZfB extract Znv
  simp only[Zi8,ZkG,ZkI,ZrR,Zkq]
  cases (Zm8 (ZlR H (H.length+1) 0 (ZgZ H (Znf m) (ZiZ vs)))&&Zq6 H.length (ZlR H (H.length+1) 0 (ZgZ H (Znf m) (ZiZ vs))))<;>rfl
def ZmG (n:Nat) (vs:List V) (k:List V→List Blk→Option β):Option β:=
  match vs with
  | []=>k [] []
  | v :: vs=>(match v with
    | .nilsl sz=>(match Nat.blt 0 sz with
      | true=>Zd1 (n+1) fun n1=>ZmG n1 vs fun vs bs=>k (.sl n sz :: vs) (.arr sz [] :: bs)
      | false=>ZmG n vs fun vs bs=>k (.nilsl sz :: vs) bs)
    | v=>ZmG n vs fun vs bs=>k (v :: vs) bs)
theorem Zj1:∀(vs:List V) (n:Nat) (k:List V→List Blk→Option β),ZmG n vs k=k (Zcd n vs).1 (Zcd n vs).2
  | [],n,k=>rfl
  | v :: vs,n,k=>by
    unfold ZmG
    split
    · rename_i sz
      simp only[Zcd]
      cases h:Nat.blt 0 sz with
      | true=>simp only[Zer,cond_true];exact Zj1 vs (n+1) _
      | false=>exact Zj1 vs n _
    · rename_i h
      rw[Zj1 vs n]
      cases v<;>first | rfl | exact absurd rfl (h _)
def ZnP (n:Nat) (H:Zh) (k:Zh→List Blk→Option β):Option β:=
  match H with
  | []=>k [] []
  | b :: H=>(match b with
    | .cells cs=>ZmG n cs fun cs bs=>Zd1 (n+bs.length) fun n1=>ZnP n1 H fun H q=>k (.cells cs :: H) (bs++q)
    | b=>ZnP n H fun H q=>k (b :: H) q)
theorem ZmO:∀(H:Zh) (n:Nat) (k:Zh→List Blk→Option β),ZnP n H k=k (ZcJ n H).1 (ZcJ n H).2
  | [],n,k=>rfl
  | b :: H,n,k=>by
    unfold ZnP
    cases b<;>first | exact ZmO H n _ | skip
    rename_i cs
    simp only[Zj1,Zer,ZcJ]
    exact ZmO H _ _
def ZoK (m:Nat) (vs:List V) (H:Zh) (k:List V→Zh→Option β):Option β:=
  ZfB m vs H fun _ vs1 H1=>ZmG H1.length vs1 fun vs2 bs=>Zd1 (H1.length+bs.length) fun n=>ZnP n H1 fun H2 q=>Zlw (H2++(bs++q)) fun H2=>ZfB m vs2 H2 fun _ vs3 H3=>k vs3 H3
theorem Zt0 (m:Nat) (vs:List V) (H:Zh) (k:List V→Zh→Option β):ZoK m vs H k=(match Zo8 m vs H with | some (vs,H)=>k vs H | none=>none):=by
  unfold ZoK Zo8
  rw[ZdC]
  cases h:extract m vs H with
  | none=>rfl
  | some p=>
    obtain⟨L,vs1,H1⟩:=p
    simp only[Zj1,Zer,ZmO,Zkq,ZdC]
    cases extract m (Zcd H1.length vs1).1 ((ZcJ (H1.length+(Zcd H1.length vs1).2.length) H1).1++((Zcd H1.length vs1).2++(ZcJ (H1.length+(Zcd H1.length vs1).2.length) H1).2))<;>rfl
noncomputable def br (c:Bool) (x y:Option β):Option β:=@ite _ (c=true) (Classical.propDecidable _) x y
theorem ZeB (c:Bool) (x y:Option β):br c x y=bif c then x else y:=by
  unfold br
  cases c with
  | true=>exact if_pos rfl
  | false=>exact if_neg (by simp)
def brL (c:Bool) (x y:Option β):Option β:=match c with | true=>x | false=>y
noncomputable def ZlO (c:Bool) (k:V→Option β):Option β:=br c (k (.d (.bool true))) (k (.d (.bool false)))
theorem Zj9 (c:Bool) (k:V→Option β):ZlO c k=k (.d (.bool c)):=by
  unfold ZlO
  rw[ZeB]
  cases c<;>rfl
noncomputable def ZrS (v:V) (k:V→Option β):Option β:=match v with | .d (.bool c)=>ZlO c k | v=>k v
theorem Zud (v:V) (k:V→Option β):ZrS v k=k v:=by
  unfold ZrS
  split
  · exact Zj9 _ _
  · rfl
noncomputable def ZwF (x:D) (k:V→Option β):Option β:=match x with | .bool c=>ZlO c k | .tup ts=>k (.tup (ZcK ts)) | x=>k (.d x)
abbrev K3 (β:Type):=V→List (Nat×Blk)→List Blk→Option β
noncomputable def ZA3 (op:BinOp) (x y:V) (k:V→Option β):Option β:=
  match op,x,y with
  | .quo,.d (.int i a),.d (.int j b)=>(match i==j with | true=>br (b==0) none (k (.d (.int i (i.wrap (a.tdiv b))))) | false=>none)
  | .rem,.d (.int i a),.d (.int j b)=>(match i==j with | true=>br (b==0) none (k (.d (.int i (a.tmod b)))) | false=>none)
  | .shl,.d (.int i a),.d (.int _ b)=>br (decide (b<0)) none (k (.d (.int i (i.wrap (a*2 ^ (min b.toNat i.bits))))))
  | .shr,.d (.int i a),.d (.int _ b)=>br (decide (b<0)) none (k (.d (.int i (a.fdiv (2 ^ (min b.toNat i.bits))))))
  | op,x,y=>match Zow op x y with | some (.bool c)=>ZlO c k | some r=>k (.d r) | none=>none
noncomputable def ZvQ (H:Zh) (n:Nat) (ag:Bool) (x:V) (k:V→Option β):Option β:=
  match x with
  | .eptr b sz i j=>(match nth H b with
    | some (.arr sz' xs)=>(match Nat.beq sz sz' with
      | true=>bnd (nth xs i) fun x=>(match Zft n ag (ZcK (x.cells.drop j)) with | some v=>ZrS v k | none=>none)
      | false=>none)
    | _=>none)
  | x=>match Zdq H n ag x with | some v=>ZrS v k | none=>none
noncomputable def Ztc (H:Zh) (n:Nat) (x v:V) (k:K3 β):Option β:=
  match x with
  | .eptr b sz i j=>(match nth H b with
    | some (.arr sz' xs)=>(match Nat.beq sz sz' with
      | true=>bnd (nth xs i) fun x=>(match fr H 6 v with
        | some (y,ks)=>(match ZiD ks b with
          | true=>none
          | false=>(match Nat.beq y.cells.length n&&Nat.ble (j+n) x.cells.length&&(V.d y).okb&&(x.isAgg || !y.isAgg) with
            | true=>bnd (some (Zf7 xs i (bif x.isAgg then .agg (Zaz x.cells j y.cells) else y))) fun zs=>k .bad ((b,.arr sz zs) :: ks.map (fun j=>(j,.dead))) []
            | false=>none))
        | none=>none)
      | false=>none)
    | _=>none)
  | x=>match ZkZ H n x v with | some (a,b,c)=>k a b c | none=>none
noncomputable def Zsy (nid:Nat) (H:Zh) (sz:Nat) (x y:V) (k:K3 β):Option β:=
  match elems H y with
  | none=>none
  | some ys=>
    br (ZjS sz ys 0) (match x with
    | .nilsl _=>br (Nat.ble ys.length lim) (bnd (some ys) fun zs=>k (.sl nid sz) [] [.arr sz zs]) none
    | .sl b sz'=>(match nth H b with
      | some (.arr sz'' xs)=>(match Nat.beq sz sz'&&Nat.beq sz sz'' with
        | true=>br (Nat.ble (xs.length+ys.length) lim) (bnd (some (xs++ys)) fun zs=>k (.sl nid sz) [(b,.dead)] [.arr sz zs]) none
        | false=>none)
      | _=>none)
    | .slp b sz' o len=>(match nth H b with
      | some (.arr sz'' xs)=>(match Nat.beq sz sz'&&Nat.beq sz sz'' with
        | true=>br (Nat.ble (o+len+ys.length) xs.length) (bnd (some (xs.take (o+len)++(ys++xs.drop (o+len+ys.length)))) fun zs=>bnd (some (len+ys.length)) fun n=>k (.slp b sz o n) [(b,.arr sz zs)] []) none
        | false=>none)
      | _=>none)
    | _=>none) none
noncomputable def Znw (H:Zh) (sz:Nat) (x y:V) (k:V→Option β):Option β:=
  match x with
  | .nilsl _=>(match elems H y with
    | some ys=>br (ZjS sz ys 0) (br (Nat.ble ys.length lim) (bnd (some ys) fun zs=>k (.d (.list true zs))) none) none
    | none=>none)
  | _=>none
noncomputable def Zqr (v:Option V) (dflt:Nat) (k:Nat→Option β):Option β:=
  match v with
  | none=>k dflt
  | some (.d (.int _ n))=>br (decide (0≤n)) (k n.toNat) none
  | _=>none
noncomputable def ZsH (H:Zh) (sz:Nat) (x:V) (lo hi mx:Option V) (k:V→Option β):Option β:=
  match elems H x with
  | none=>none
  | some xs=>
    Zqr lo 0 fun l=>Zqr hi xs.length fun h=>
      br (Nat.ble l h&&Nat.ble h xs.length)
        (match mx with
        | none=>(match x with
          | .d (.list own _)=>br (Nat.beq l 0 || ZjS sz xs l) (bnd (some ((xs.drop l).take (h-l))) fun zs=>k (.d (.list own zs))) none
          | .sl b sz'=>(match Nat.beq sz sz' with | true=>bnd (some l) fun l'=>bnd (some (h-l)) fun n=>k (.slp b sz l' n) | false=>none)
          | .slp b sz' o _=>(match Nat.beq sz sz' with | true=>bnd (some (o+l)) fun l'=>bnd (some (h-l)) fun n=>k (.slp b sz l' n) | false=>none)
          | .nilsl _=>k (.nilsl sz)
          | _=>none)
        | some m=>Zqr (some m) 0 fun m=>br (Nat.beq m l&&Nat.beq m h) (k (.nilsl sz)) none)
        none
noncomputable def ZsM (H:Zh) (sz:Nat) (x i:V) (k:V→Option β):Option β:=
  match i with
  | .d (.int _ i)=>(match x with
    | .d (.list _ xs)=>bnd (Zp xs i) fun x=>(match Nat.beq x.cells.length sz&&(V.d x).okb with | true=>k (.d (.rptr x.cells)) | false=>none)
    | .sl b sz'=>(match nth H b with
      | some (.arr sz'' xs)=>(match Nat.beq sz sz'&&Nat.beq sz sz'' with | true=>bnd (Zp xs i) fun _=>k (.eptr b sz i.toNat 0) | false=>none)
      | _=>none)
    | .slp b sz' o len=>(match nth H b with
      | some (.arr sz'' xs)=>(match Nat.beq sz sz'&&Nat.beq sz sz'' with | true=>bnd (Zp ((xs.drop o).take len) i) fun _=>k (.eptr b sz (o+i.toNat) 0) | false=>none)
      | _=>none)
    | _=>none)
  | _=>none
noncomputable def Zsx (len sz:Nat) (ag:Bool) (x i:V) (k:V→Option β):Option β:=
  match i with
  | .d (.int _ i)=>br (x.isAggV&&(decide (0≤i)&&decide (i<len))) (bnd (Zft sz ag (x.cells.drop (i.toNat*sz))) k) none
  | _=>none
noncomputable def Zpl (H:Zh) (len sz:Nat) (x i:V) (k:V→Option β):Option β:=
  match i with
  | .d (.int _ i)=>br (decide (0≤i)&&decide (i<len)) (match ZkX H (i.toNat*sz) x with | some v=>k v | none=>none) none
  | _=>none
noncomputable def Zpu (x i:V) (k:V→Option β):Option β:=
  match x,i with
  | .d (.str s),.d (.int _ i)=>br (decide (0≤i)) (bnd s[i.toNat]? fun b=>k (.d (.int .u8 b.toNat))) none
  | _,_=>none
noncomputable def ZoG (k:V→Option β) (r:V×Zh):Option β:=match fr r.2 6 r.1 with | some (x,_)=>ZwF x k | none=>none
noncomputable def ZoI (Γ:Ctx) (cf:Zbw) (nid:Nat) (H:Zh) (f:Nat) (args:List V) (k:K3 β):Option β:=
  match Γ.mode f with
  | 0=>(match fzs H args with
    | some l=>Zjt (ZcK l) fun l=>bnd (cf f l []) (ZoG fun v=>k v [] [])
    | none=>none)
  | 1=>(match fzs H args with
    | some l=>Zjt (ZcK l) fun l=>bnd (cf f l []) fun r=>(match Zra r.1&&Zmy r.2 with | true=>k (Zns (fun j=>some (nid+j)) r.1) [] (r.2.map (ZiJ (fun j=>some (nid+j)))) | false=>none)
    | none=>none)
  | _ => (ZfB 0 args H fun L args' H0 => bnd (cf f args' H0) fun r => (match Zmw r.1 && ZjY r.2 with
        | true=>k (Zns (fun j=>match nth L j with | some b=>some b | none=>some (nid+(j-L.length))) r.1)
          (L.zip (r.2.map (ZiJ (fun j=>match nth L j with | some b=>some b | none=>some (nid+(j-L.length))))))
          ((r.2.drop L.length).map (ZiJ (fun j=>match nth L j with | some b=>some b | none=>some (nid+(j-L.length)))))
        | false=>none))
noncomputable def Zti (H:Zh) (ks:List Bool) (m k v:V) (kk:K3 β):Option β:=
  match m,k,v with
  | .mp b,.d k,.d y=>(match nth H b with
    | some (.mp es)=>(match ZcE ks k&&ZiC y with | true=>bnd (ZkB es k y) fun l=>kk .bad [(b,.mp l)] [] | false=>none)
    | _=>none)
  | _,_,_=>none
noncomputable def Zte (H:Zh) (ks:List Bool) (z:D) (m k:V) (kk:K3 β):Option β:=
  match m,k with
  | .mp b,.d k=>(match nth H b with
    | some (.mp es)=>(match ZcE ks k with | true=>bnd (ZBf es k z) fun y=>kk (.d y) [] [] | false=>none)
    | _=>none)
  | _,_=>none
noncomputable def opK (Γ:Ctx) (cf:Zbw) (e:Env) (nid:Nat) (H:Zh) (o:O) (k:K3 β):Option β:=
  match o with
  | .mov x=>k (x.val e) [] []
  | .pick c a b=>(match c.val e with | .d (.bool t)=>brL t (k (a.val e) [] []) (k (b.val e) [] []) | _=>none)
  | .load n ag x=>ZvQ H n ag (x.val e) fun v=>k v [] []
  | .store n x v=>Ztc H n (x.val e) (v.val e) k
  | .storek n x v _=>Ztc H n (x.val e) (v.val e) k
  | .bin op x y=>ZA3 op (x.val e) (y.val e) fun v=>k v [] []
  | .slice sz x lo hi mx=>ZsH H sz (x.val e) (lo.map (·.val e)) (hi.map (·.val e)) (mx.map (·.val e)) fun v=>k v [] []
  | .iaddr sz x i=>ZsM H sz (x.val e) (i.val e) fun v=>k v [] []
  | .index len sz ag x i=>Zsx len sz ag (x.val e) (i.val e) fun v=>k v [] []
  | .iaddrA len sz x i=>Zpl H len sz (x.val e) (i.val e) fun v=>k v [] []
  | .indexS x i=>Zpu (x.val e) (i.val e) fun v=>k v [] []
  | .append sz x y=>Zsy nid H sz (x.val e) (y.val e) k
  | .appendD sz x y=>Znw H sz (x.val e) (y.val e) fun v=>k v [] []
  | .eqv ks neg x y=>(match x.val e,y.val e with
    | .d a,.d b=>(match ZcE ks a with | true=>(match eqD a b with | some r=>ZlO (bif neg then !r else r) fun v=>k v [] [] | none=>none) | false=>none)
    | _,_=>none)
  | .un .not x=>(match x.val e with | .d (.bool b)=>brL b (k (.d (.bool false)) [] []) (k (.d (.bool true)) [] []) | _=>none)
  | .extract x i=>(match x.val e with
    | .tup vs=>(match nth vs i with | some (.d (.bool c))=>ZlO c fun v=>k v [] [] | some v=>k v [] [] | none=>none)
    | .d (.tup vs)=>(match nth vs i with | some (.bool c)=>ZlO c fun v=>k v [] [] | some v=>k (.d v) [] [] | none=>none)
    | _=>none)
  | .mkslice sz z n c=>(match n.val e,c.val e with
    | .d (.int _ n),.d (.int _ c)=>br (decide (0≤n)&&decide (n≤lim)&&decide (n==c))
        (bnd (some (List.replicate n.toNat (match z with | [x]=>x | z=>.agg z))) fun zs=>k (.sl nid sz) [] [.arr sz zs]) none
    | _,_=>none)
  | .len x=>(match elems H (x.val e) with | some xs=>bnd (some (xs.length:Int)) fun n=>k (.d (.int .i64 n)) [] [] | none=>none)
  | .call f args=>ZoI Γ cf nid H f (ZfQ e args) k
  | .callv x args=>(match Zlb (x.val e) with | some (f,caps)=>(match ZhB Γ (x.val e) f caps with | true=>none | false=>ZoI Γ cf nid H (Zmx f) (ZoM f caps (ZfQ e args)) k) | none=>none)
  | .invoke tab x args=>(match x.val e with
    | .d (.iface t y)=>(match ZmA tab t with | some f=>ZoI Γ cf nid H f (.d y :: ZfQ e args) k | none=>none)
    | _=>none)
  | .callk f args _=>ZoI Γ cf nid H f (ZfQ e args) k
  | .spec id args=>(match H,ZlL (ZfQ e args) with | [],some l=>bnd (Zmz id l) fun r=>k (.d r) [] [] | _,_=>none)
  | .nilq x=>(match elems H (x.val e) with | some xs=>br (Nat.blt 0 xs.length) (k (.d (.bool false)) [] []) none | none=>none)
  | .mapset ks m x v=>Zti H ks (m.val e) (x.val e) (v.val e) k
  | .mapget ks z m x=>Zte H ks z (m.val e) (x.val e) k
  | o=>match opE Γ cf e nid H o with | some (v,up,nw)=>ZrS v fun v=>k v up nw | none=>none
def on3 (x:Res) (k:K3 β):Option β:=match x with | some (v,up,nw)=>k v up nw | none=>none
theorem ZnI (Γ:Ctx) (cf:Zbw) (nid:Nat) (H:Zh) (f:Nat) (args:List V) (k:K3 β):ZoI Γ cf nid H f args k=on3 (Zhz Γ cf nid H f args) k:=by
  unfold ZoI Zhz
  generalize Γ.mode f=m
  match m with
  | 0=>
    dsimp only
    simp only[ZfU]
    cases h1:fzs H args with
    | none=>rfl
    | some l=>
      simp only[Zi8]
      cases h2:cf f (ZcK l) [] with
      | none=>rfl
      | some r=>
        obtain⟨v,H1⟩:=r
        dsimp only[ZoG]
        cases h3:fr H1 6 v with
        | none=>rfl
        | some q => obtain ⟨x, ks⟩ := q; cases x <;> try rfl
                    exact Zj9 _ (fun v=>k v [] [])
  | 1=>
    dsimp only
    simp only[ZfU]
    cases h1:fzs H args with
    | none=>rfl
    | some l=>
      simp only[Zi8]
      cases h2:cf f (ZcK l) [] with
      | none=>rfl
      | some r=>
        dsimp only
        cases h3:(Zra r.1&&Zmy r.2)<;>rfl
  | m+2=>
    dsimp only
    simp only[ZfU]
    rw[ZdC]
    cases h1:extract 0 args H with
    | none=>rfl
    | some q=>
      obtain⟨L,args',H0⟩:=q
      dsimp only
      cases h2:cf f args' H0 with
      | none=>rfl
      | some r=>
        dsimp only
        cases h3:(Zmw r.1&&ZjY r.2)<;>rfl
theorem ZAR (op:BinOp) (x y:V) (k:V→Option β):ZA3 op x y k=(match Zow op x y with | some r=>k (.d r) | none=>none):=by
  unfold ZA3
  split
  · rename_i i a j b
    simp only[Zow,ZBd]
    cases h:(i==j)<;>simp only[cond_true,cond_false,ZeB]
    cases h2:(b==0)<;>rfl
  · rename_i i a j b
    simp only[Zow,ZBd]
    cases h:(i==j)<;>simp only[cond_true,cond_false,ZeB]
    cases h2:(b==0)<;>rfl
  · rename_i i a j b
    simp only[Zow,shI,ZeB]
    cases h:decide (b<0)<;>rfl
  · rename_i i a j b
    simp only[Zow,shI,ZeB]
    cases h:decide (b<0)<;>rfl
  · cases h:Zow op x y with
    | none=>rfl
    | some r => cases r <;> try rfl
                exact Zj9 _ _
theorem ZyT (H:Zh) (n:Nat) (ag:Bool) (x:V) (k:V→Option β):ZvQ H n ag x k=(match Zdq H n ag x with | some v=>k v | none=>none):=by
  unfold ZvQ
  simp only[ZfU]
  simp only[Zud]
  split
  · rename_i b sz i j
    simp only[Zdq]
    cases h:nth H b with
    | none=>rfl
    | some blk=>
      cases blk<;>try rfl
      rename_i sz' xs
      dsimp only
      cases h2:Nat.beq sz sz'<;>simp only[cond_true,cond_false]
      cases h3:nth xs i<;>rfl
  · rfl
theorem ZrQ (H:Zh) (n:Nat) (x v:V) (k:K3 β):Ztc H n x v k=on3 (ZkZ H n x v) k:=by
  unfold Ztc
  simp only[ZfU]
  split
  · rename_i b sz i j
    simp only[ZkZ]
    cases h:nth H b with
    | none=>rfl
    | some blk=>
      cases blk<;>try rfl
      rename_i sz' xs
      dsimp only
      cases h2:Nat.beq sz sz'<;>simp only[cond_true,cond_false]<;>try rfl
      cases h3:nth xs i with
      | none=>rfl
      | some x=>
        cases h4:fr H 6 v with
        | none=>rfl
        | some q=>
          obtain⟨y,ks⟩:=q
          dsimp only
          cases h5:ZiD ks b<;>simp only[cond_true,cond_false]<;>try rfl
          cases h6:(Nat.beq y.cells.length n&&Nat.ble (j+n) x.cells.length&&(V.d y).okb&&(x.isAgg || !y.isAgg))<;>rfl
  · rfl
theorem Zuw (nid:Nat) (H:Zh) (sz:Nat) (x y:V) (k:K3 β):Zsy nid H sz x y k=on3 (Zh3 nid H sz x y) k:=by
  unfold Zsy Zh3
  cases h:elems H y with
  | none=>rfl
  | some ys=>
    simp only[ZeB,Zl2]
    cases h0:ZjS sz ys 0<;>simp only[cond_true,cond_false]<;>try rfl
    cases x<;>try rfl
    · rename_i b sz'
      dsimp only
      cases h1:nth H b with
      | none=>rfl
      | some blk=>
        cases blk<;>try rfl
        rename_i sz'' xs
        dsimp only
        cases h2:(Nat.beq sz sz'&&Nat.beq sz sz'')<;>simp only[cond_true,cond_false]<;>try rfl
        cases h3:Nat.ble (xs.length+ys.length) lim<;>rfl
    · rename_i b sz' o len
      dsimp only
      cases h1:nth H b with
      | none=>rfl
      | some blk=>
        cases blk<;>try rfl
        rename_i sz'' xs
        dsimp only
        cases h2:(Nat.beq sz sz'&&Nat.beq sz sz'')
        · simp only[Bool.false_and,cond_false];rfl
        · simp only[Bool.true_and,ZeB]
          cases h3:Nat.ble (o+len+ys.length) xs.length<;>rfl
    · dsimp only
      cases h3:Nat.ble ys.length lim<;>rfl
theorem Zur (H:Zh) (sz:Nat) (x y:V) (k:V→Option β):Znw H sz x y k=(match Zjg H sz x y with | some v=>k v | none=>none):=by
  unfold Znw Zjg
  cases x<;>try rfl
  dsimp only
  cases h:elems H y with
  | none=>rfl
  | some ys=>
    simp only[ZeB,Zl2]
    cases h0:ZjS sz ys 0<;>cases h1:Nat.ble ys.length lim<;>rfl
theorem Zxv (v:Option V) (d:Nat) (k:Nat→Option β):Zqr v d k=(match Zix v d with | some n=>k n | none=>none):=by
  unfold Zqr Zix
  cases v with
  | none=>rfl
  | some v=>
    cases v<;>try rfl
    rename_i x
    cases x<;>try rfl
    rename_i i n
    dsimp only
    rw[ZeB]
    cases h:decide (0≤n)<;>rfl
theorem Zxb (H:Zh) (sz:Nat) (x:V) (lo hi mx:Option V) (k:V→Option β):ZsH H sz x lo hi mx k=(match Zjf H sz x lo hi mx with | some v=>k v | none=>none):=by
  unfold ZsH Zjf
  cases h:elems H x with
  | none=>rfl
  | some xs=>
    simp only[Zxv]
    cases h1:Zix lo 0 with
    | none=>rfl
    | some l=>
      cases h2:Zix hi xs.length with
      | none=>rfl
      | some hh=>
        simp only[ZeB,Zl2]
        cases h3:(Nat.ble l hh&&Nat.ble hh xs.length)<;>simp only[cond_true,cond_false]
        cases mx with
        | none=>
          cases x<;>try rfl
          · rename_i x
            cases x<;>try rfl
            dsimp only
            cases h4:(Nat.beq l 0 || ZjS sz xs l)<;>rfl
          · rename_i b sz'
            dsimp only
            cases h4:Nat.beq sz sz'<;>rfl
          · rename_i b sz' o len
            dsimp only
            cases h4:Nat.beq sz sz'<;>rfl
        | some m=>
          dsimp only
          cases h4:Zix (some m) 0 with
          | none=>rfl
          | some m=>
            dsimp only
            cases h5:(Nat.beq m l&&Nat.beq m hh)<;>rfl
theorem ZxB (H:Zh) (sz:Nat) (x i:V) (k:V→Option β):ZsM H sz x i k=(match ZiY H sz x i with | some v=>k v | none=>none):=by
  unfold ZsM ZiY
  simp only[ZfU]
  cases i<;>try rfl
  rename_i i
  cases i<;>try rfl
  rename_i ki i
  cases x<;>try rfl
  · rename_i x
    cases x<;>try rfl
    rename_i own xs
    dsimp only
    cases h:Zp xs i with
    | none=>rfl
    | some x=>
      dsimp only
      cases h2:(Nat.beq x.cells.length sz&&(V.d x).okb)<;>rfl
  · rename_i b sz'
    dsimp only
    cases h1:nth H b with
    | none=>rfl
    | some blk=>
      cases blk<;>try rfl
      rename_i sz'' xs
      dsimp only
      cases h2:(Nat.beq sz sz'&&Nat.beq sz sz'')<;>simp only[cond_true,cond_false]
      cases h:Zp xs i<;>rfl
  · rename_i b sz' o len
    dsimp only
    cases h1:nth H b with
    | none=>rfl
    | some blk=>
      cases blk<;>try rfl
      rename_i sz'' xs
      dsimp only
      cases h2:(Nat.beq sz sz'&&Nat.beq sz sz'')<;>simp only[cond_true,cond_false]
      cases h:Zp ((xs.drop o).take len) i<;>rfl
theorem Zw5 (len sz:Nat) (ag:Bool) (x i:V) (k:V→Option β):Zsx len sz ag x i k=(match Zm7 len sz ag x i with | some v=>k v | none=>none):=by
  unfold Zsx Zm7
  cases i<;>try rfl
  rename_i i
  cases i<;>try rfl
  rename_i ki i
  dsimp only
  rw[ZeB,ZfU]
  cases (x.isAggV&&(decide (0≤i)&&decide (i<(len:Int)))) with
  | false=>rfl
  | true=>simp only[cond_true];cases Zft sz ag (List.drop (i.toNat*sz) x.cells)<;>rfl
theorem ZuJ (H:Zh) (len sz:Nat) (x i:V) (k:V→Option β):Zpl H len sz x i k=(match Zhl H len sz x i with | some v=>k v | none=>none):=by
  unfold Zpl Zhl
  cases i<;>try rfl
  rename_i i
  cases i<;>try rfl
  rename_i ki i
  dsimp only
  rw[ZeB]
  cases (decide (0≤i)&&decide (i<(len:Int)))<;>rfl
theorem ZuA (x i:V) (k:V→Option β):Zpu x i k=(match Zk0 x i with | some v=>k v | none=>none):=by
  unfold Zpu Zk0
  cases x<;>try rfl
  rename_i x
  cases x<;>try rfl
  rename_i s
  cases i<;>try rfl
  rename_i i
  cases i<;>try rfl
  rename_i ki i
  dsimp only
  rw[ZeB,ZfU]
  cases decide (0≤i) with
  | false=>rfl
  | true=>simp only[cond_true];cases s[i.toNat]?<;>rfl
theorem Zv0 (x:Res) (k:K3 β):(match x with | some (v,up,nw)=>ZrS v fun v=>k v up nw | none=>none)=on3 x k:=by
  cases x with
  | none=>rfl
  | some q=>exact Zud _ _
theorem Zva (H:Zh) (ks:List Bool) (m x v:V) (k:K3 β):Zti H ks m x v k=on3 (Znd H ks m x v) k:=by
  unfold Zti Znd
  cases m<;>try rfl
  cases x<;>try rfl
  cases v<;>try rfl
  rename_i b x y
  dsimp only
  cases hb:nth H b with
  | none=>rfl
  | some blk=>
    cases blk<;>try rfl
    rename_i es
    dsimp only
    cases hk:(ZcE ks x&&ZiC y) with
    | false=>rfl
    | true=>
      dsimp only
      rw[ZfU]
      cases hs:ZkB es x y<;>rfl
theorem Zvp (H:Zh) (ks:List Bool) (z:D) (m x:V) (k:K3 β):Zte H ks z m x k=on3 (match Zmh H ks z m x with | some r=>ZcR (.d r) | none=>none) k:=by
  unfold Zte Zmh
  cases m<;>try rfl
  cases x<;>try rfl
  rename_i b x
  dsimp only
  cases hb:nth H b with
  | none=>rfl
  | some blk=>
    cases blk<;>try rfl
    rename_i es
    dsimp only
    cases hk:ZcE ks x with
    | false=>rfl
    | true=>
      dsimp only
      rw[ZfU]
      cases hs:ZBf es x z<;>rfl
theorem ZsN (Γ:Ctx) (cf:Zbw) (e:Env) (nid:Nat) (H:Zh) (o:O) (k:K3 β):opK Γ cf e nid H o k=on3 (opE Γ cf e nid H o) k:=by
  cases o<;>try (first | rfl | exact Zv0 _ _)
  · rename_i c a b
    show(match c.val e with | .d (.bool t)=>brL t (k (a.val e) [] []) (k (b.val e) [] []) | _=>none)=on3 (match c.val e with | .d (.bool t)=>ZcR (bif t then a.val e else b.val e) | _=>none) k
    cases c.val e<;>try rfl
    rename_i x
    cases x<;>try rfl
    rename_i t
    cases t<;>rfl
  · rename_i n ag x
    show ZvQ H n ag (x.val e) (fun v=>k v [] [])=on3 (match Zdq H n ag (x.val e) with | some v=>ZcR v | none=>none) k
    rw[ZyT]
    cases h:Zdq H n ag (x.val e)<;>rfl
  · exact ZrQ _ _ _ _ _
  · rename_i op x y
    show ZA3 op (x.val e) (y.val e) (fun v=>k v [] [])=on3 (match Zow op (x.val e) (y.val e) with | some r=>ZcR (.d r) | none=>none) k
    rw[ZAR]
    cases h:Zow op (x.val e) (y.val e)<;>rfl
  · rename_i ks neg x y
    show(match x.val e,y.val e with
      | .d a,.d b=>(match ZcE ks a with | true=>(match eqD a b with | some r=>ZlO (bif neg then !r else r) (fun v=>k v [] []) | none=>none) | false=>none)
      | _,_=>none)=on3 (match x.val e,y.val e with
      | .d a,.d b=>(match ZcE ks a with | true=>(match eqD a b with | some r=>ZcR (.d (.bool (bif neg then !r else r))) | none=>none) | false=>none)
      | _,_=>none) k
    cases x.val e<;>try rfl
    rename_i a
    cases y.val e<;>try rfl
    rename_i b
    dsimp only
    cases hn:ZcE ks a<;>try rfl
    dsimp only
    cases h:eqD a b with
    | none=>rfl
    | some r=>exact Zj9 _ _
  · rename_i op x
    cases op<;>try (first | rfl | exact Zv0 _ _)
    show(match x.val e with | .d (.bool b)=>brL b (k (.d (.bool false)) [] []) (k (.d (.bool true)) [] []) | _=>none)=on3 (match unE .not (x.val e) with | some r=>ZcR (.d r) | none=>none) k
    cases x.val e<;>try rfl
    rename_i a
    cases a<;>try rfl
    rename_i b
    cases b<;>rfl
  · rename_i f caps
    cases caps<;>rfl
  · rename_i sz z n c
    show(match n.val e,c.val e with
      | .d (.int _ n),.d (.int _ c)=>br (decide (0≤n)&&decide (n≤lim)&&decide (n==c)) (bnd (some (List.replicate n.toNat (match z with | [x]=>x | z=>.agg z))) fun zs=>k (.sl nid sz) [] [.arr sz zs]) none
      | _,_=>none)=on3 (match n.val e,c.val e with
      | .d (.int _ n),.d (.int _ c)=>bif decide (0≤n)&&decide (n≤lim)&&decide (n==c) then some (.sl nid sz,[],[.arr sz (List.replicate n.toNat (match z with | [x]=>x | z=>.agg z))]) else none
      | _,_=>none) k
    cases n.val e<;>try rfl
    rename_i x
    cases x<;>try rfl
    rename_i i n1
    cases c.val e<;>try rfl
    rename_i x
    cases x<;>try rfl
    rename_i j c1
    dsimp only
    simp only[ZeB,Zl2]
    cases h3:(decide (0≤n1)&&decide (n1≤lim)&&decide (n1==c1))<;>rfl
  · rename_i sz x lo hi mx
    show ZsH H sz (x.val e) (lo.map (·.val e)) (hi.map (·.val e)) (mx.map (·.val e)) (fun v=>k v [] [])=on3 (match Zjf H sz (x.val e) (lo.map (·.val e)) (hi.map (·.val e)) (mx.map (·.val e)) with | some v=>ZcR v | none=>none) k
    rw[Zxb]
    cases h:Zjf H sz (x.val e) (lo.map (·.val e)) (hi.map (·.val e)) (mx.map (·.val e))<;>rfl
  · rename_i sz x i
    show ZsM H sz (x.val e) (i.val e) (fun v=>k v [] [])=on3 (match ZiY H sz (x.val e) (i.val e) with | some v=>ZcR v | none=>none) k
    rw[ZxB]
    cases h:ZiY H sz (x.val e) (i.val e)<;>rfl
  · rename_i len sz ag x i
    show Zsx len sz ag (x.val e) (i.val e) (fun v=>k v [] [])=on3 (match Zm7 len sz ag (x.val e) (i.val e) with | some v=>ZcR v | none=>none) k
    rw[Zw5]
    cases h:Zm7 len sz ag (x.val e) (i.val e)<;>rfl
  · rename_i x i
    show Zpu (x.val e) (i.val e) (fun v=>k v [] [])=on3 (match Zk0 (x.val e) (i.val e) with | some v=>ZcR v | none=>none) k
    rw[ZuA]
    cases h:Zk0 (x.val e) (i.val e)<;>rfl
  · rename_i len sz x i
    show Zpl H len sz (x.val e) (i.val e) (fun v=>k v [] [])=on3 (match Zhl H len sz (x.val e) (i.val e) with | some v=>ZcR v | none=>none) k
    rw[ZuJ]
    cases h:Zhl H len sz (x.val e) (i.val e)<;>rfl
  · rename_i x
    show(match elems H (x.val e) with | some xs=>bnd (some (xs.length:Int)) fun n=>k (.d (.int .i64 n)) [] [] | none=>none)=on3 (match ZsS H (x.val e) with | some r=>ZcR (.d r) | none=>none) k
    unfold ZsS
    cases elems H (x.val e) with
    | none=>rfl
    | some xs=>exact Zl2 _ _
  · exact Zuw _ _ _ _ _ _
  · rename_i sz x y
    show Znw H sz (x.val e) (y.val e) (fun v=>k v [] [])=on3 (match Zjg H sz (x.val e) (y.val e) with | some v=>ZcR v | none=>none) k
    rw[Zur]
    cases h:Zjg H sz (x.val e) (y.val e)<;>rfl
  · rename_i x i
    show(match x.val e with
      | .tup vs=>(match nth vs i with | some (.d (.bool c))=>ZlO c (fun v=>k v [] []) | some v=>k v [] [] | none=>none)
      | .d (.tup vs)=>(match nth vs i with | some (.bool c)=>ZlO c (fun v=>k v [] []) | some v=>k (.d v) [] [] | none=>none)
      | _=>none)=on3 (match x.val e with
      | .tup vs=>(match nth vs i with | some v=>ZcR v | none=>none)
      | .d (.tup vs)=>(match nth vs i with | some v=>ZcR (.d v) | none=>none)
      | _=>none) k
    cases x.val e<;>try rfl
    · rename_i y
      cases y<;>try rfl
      rename_i vs
      dsimp only
      cases nth vs i with
      | none=>rfl
      | some v => cases v <;> try rfl
                  exact Zj9 _ _
    · rename_i vs
      dsimp only
      cases nth vs i with
      | none=>rfl
      | some v => cases v <;> try rfl
                  rename_i y
                  cases y<;>try rfl
                  exact Zj9 _ _
  · exact ZnI _ _ _ _ _ _ _
  · rename_i x args
    show(match Zlb (x.val e) with | some (f,caps)=>(match ZhB Γ (x.val e) f caps with | true=>none | false=>ZoI Γ cf nid H (Zmx f) (ZoM f caps (ZfQ e args)) k) | none=>none)=_
    rw[ZhS]
    cases h:Zlb (x.val e) with
    | none=>rfl
    | some q=>
      obtain⟨f,caps⟩:=q
      dsimp only
      cases hb:ZhB Γ (x.val e) f caps
      · exact ZnI _ _ _ _ _ _ _
      · rfl
  · rename_i tab x args
    show(match x.val e with
      | .d (.iface t y)=>(match ZmA tab t with | some f=>ZoI Γ cf nid H f (.d y :: ZfQ e args) k | none=>none)
      | _=>none)=_
    rw[Zg3]
    cases h:x.val e<;>try rfl
    rename_i y
    cases y<;>try rfl
    rename_i t y
    dsimp only
    cases h2:ZmA tab t with
    | none=>rfl
    | some f=>exact ZnI _ _ _ _ _ _ _
  · exact Zva _ _ _ _ _ _
  · exact Zvp _ _ _ _ _ _
  · exact ZnI _ _ _ _ _ _ _
  · rename_i x
    show(match elems H (x.val e) with | some xs=>br (Nat.blt 0 xs.length) (k (.d (.bool false)) [] []) none | none=>none)=on3 (match elems H (x.val e) with | some xs=>(match Nat.blt 0 xs.length with | true=>ZcR (.d (.bool false)) | false=>none) | none=>none) k
    cases elems H (x.val e) with
    | none=>rfl
    | some xs=>
      dsimp only
      rw[ZeB]
      cases Nat.blt 0 xs.length<;>rfl
  · rename_i id args
    show(match H,ZlL (ZfQ e args) with | [],some l=>bnd (Zmz id l) fun r=>k (.d r) [] [] | _,_=>none)=on3 (match H,ZlL (ZfQ e args) with | [],some l=>(match Zmz id l with | some r=>ZcR (.d r) | none=>none) | _,_=>none) k
    cases H<;>cases ZlL (ZfQ e args)<;>try rfl
    rename_i l
    dsimp only
    rw[ZfU]
    cases Zmz id l<;>rfl
  · exact ZrQ _ _ _ _ _
def ZoD (e:Env) (g:Option (Nat×Bool)) (x y:Option β):Option β:=
  match g with
  | none=>x
  | some (s,b)=>match e s with | .d (.bool t)=>brL (t==b) x y | .d (.tup [])=>y | _=>none
theorem ZrV (e:Env) (g:Option (Nat×Bool)) (x y:Option β):ZoD e g x y=(match Ze5 e g with | some true=>x | some false=>y | none=>none):=by
  unfold ZoD Ze5
  cases g with
  | none=>rfl
  | some p=>
    obtain⟨s,b⟩:=p
    dsimp only
    split<;>rename_i h
    · simp only[h,brL];rename_i t;cases h2:t==b<;>rfl
    · simp only[h]
    · split<;>simp_all
end
section
variable {β:Type}
def Zse (e:Env) (dst:Option Nat) (H:Zh) (v:V) (up:List (Nat×Blk)) (nw:List Blk) (k:Env→Zh→Option β):Option β:=
  Zst v fun v=>match dst with
    | some i=>(match up,nw with
      | [],[]=>k (e.set i v) H
      | up,nw=>Zlw (Zdh H up++nw) fun H=>k (e.set i v) H)
    | none=>(match up,nw with
      | [],[]=>k e H
      | up,nw=>Zlw (Zdh H up++nw) fun H=>k e H)
theorem Ztz (e:Env) (dst:Option Nat) (H:Zh) (v:V) (up:List (Nat×Blk)) (nw:List Blk) (k:Env→Zh→Option β):Zse e dst H v up nw k=k (ZnH e dst v) (Zdh H up++nw):=by
  unfold Zse
  rw[Zss]
  cases dst<;>dsimp only[ZnH]
  all_goals
    split
    · simp[Zdh]
    · rw[Zkq]
def ZtM (e:Env) (dst:Option Nat) (k:Env→Option β):Option β:=match dst with | some i=>k (e.set i (.d (.tup []))) | none=>k e
theorem Zuu (e:Env) (dst:Option Nat) (k:Env→Option β):ZtM e dst k=k (ZnH e dst (.d (.tup []))):=by cases dst<;>rfl
def Zu1:O→Bool
  | .mov _=>true
  | .pick _ _ _=>true
  | .build _ _=>true
  | .bin _ _ _=>true
  | .eqv _ _ _ _=>true
  | .un _ _=>true
  | .conv _ _=>true
  | .mkfn _ _=>true
  | .field _ _ _ _=>true
  | .index _ _ _ _ _=>true
  | .indexS _ _=>true
  | .mx _ _=>true
  | .extract _ _=>true
  | .bslice _ _ 0 _=>true
  | .alloc _=>true
  | .box _=>true
  | _=>false
theorem Zxt {Γ:Ctx}{cf:Zbw}{e:Env}{nid:Nat}{H H':Zh}{op:O} (h:Zu1 op=true):opE Γ cf e nid H op=opE Γ cf e nid H' op:=by
  cases op<;>first | rfl | (cases h;done) | skip
  rename_i sz z len ps
  cases len with
  | zero=>rfl
  | succ n=>cases h
noncomputable def ZwQ (Γ:Ctx) (cf:Zbw) (l:List Op1) (e:Env) (H:Zh) (k:Env→Zh→Option β):Option β:=
  List.rec (motive:=fun _=>Env→Zh→(Env→Zh→Option β)→Option β) (fun e H k=>k e H)
    (fun o _ ih e H k=>ZoD e o.guard (Zd1 H.length fun nid=>opK Γ cf e nid H o.op fun v up nw=>Zse e o.dst H v up nw fun e H=>ih e H k) (ZtM e o.dst fun e=>ih e H k)) l e H k
theorem ZwV (Γ:Ctx) (cf:Zbw) (o:Op1) (r:List Op1) (e:Env) (H:Zh) (k:Env→Zh→Option β) :
    ZwQ Γ cf (o :: r) e H k=ZoD e o.guard (Zd1 H.length fun nid=>opK Γ cf e nid H o.op fun v up nw=>Zse e o.dst H v up nw fun e H=>ZwQ Γ cf r e H k) (ZtM e o.dst fun e=>ZwQ Γ cf r e H k):=rfl
theorem Zs8 (Γ:Ctx) (cf:Zbw):∀(l:List Op1) (e:Env) (H:Zh) (k:Env→Zh→Option β),ZwQ Γ cf l e H k=(match Zhh Γ cf l e H with | some (e,H)=>k e H | none=>none)
  | [],e,H,k=>rfl
  | o :: l,e,H,k=>by
    rw[ZwV]
    unfold Zhh
    rw[ZrV,Zer,ZsN,Zuu]
    cases hw:Ze5 e o.guard with
    | none=>rfl
    | some b=>
      cases b with
      | false=>exact Zs8 Γ cf l _ _ k
      | true=>
        dsimp only
        cases ho:opE Γ cf e H.length H o.op with
        | none=>rfl
        | some q=>obtain⟨v,up,nw⟩:=q;simp only[on3,Ztz];exact Zs8 Γ cf l _ _ k
def ZmV (l:List (Nat×Nat)) (k:List (Nat×Nat)→Option β):Option β:=
  match l with
  | []=>k []
  | p :: l=>Zd1 p.1 fun a=>Zd1 p.2 fun b=>ZmV l fun l=>k ((a,b) :: l)
theorem ZoE:∀(l:List (Nat×Nat)) (k:List (Nat×Nat)→Option β),ZmV l k=k l
  | [],k=>rfl
  | p :: l,k=>by unfold ZmV;rw[Zer,Zer,ZoE l]
def ZAV (o:O) (mask:List Nat) (H:Zh) (pos:List (Nat×Nat)) (k:Zh→Option β):Option β:=
  match Zu1 o with
  | true=>k H
  | false=>(match mask with | []=>k H | mask=>Zlw (Zhx H pos mask) k)
noncomputable def ZrG (Γ:Ctx) (cf:Zbw) (pos:List (Nat×Nat)) (l:List Op1) (e:Env) (H:Zh) (k:Env→Zh→Option β):Option β:=
  List.rec (motive:=fun _=>List (Nat×Nat)→Env→Zh→(Env→Zh→Option β)→Option β) (fun _ e H k=>k e H)
    (fun o _ ih pos e H k=>ZoD e o.guard (Zd1 H.length fun nid=>ZAV o.op o.mask H pos fun Hm=>opK Γ cf e nid Hm o.op fun v up nw=>
      (match ZpJ e H o up nw with | true=>Zd1 nw.length fun m=>ZmV (pos++[(nid,m)]) fun pos=>Zse e o.dst H v up nw fun e' H'=>ih pos e' H' k | false=>none)) (ZtM e o.dst fun e'=>Zd1 H.length fun nid=>ZmV (pos++[(nid,0)]) fun pos=>ih pos e' H k)) l pos e H k
theorem ZuX (Γ:Ctx) (cf:Zbw) (pos:List (Nat×Nat)) (o:Op1) (r:List Op1) (e:Env) (H:Zh) (k:Env→Zh→Option β) :
    ZrG Γ cf pos (o :: r) e H k=ZoD e o.guard (Zd1 H.length fun nid=>ZAV o.op o.mask H pos fun Hm=>opK Γ cf e nid Hm o.op fun v up nw=>
      (match ZpJ e H o up nw with | true=>Zd1 nw.length fun m=>ZmV (pos++[(nid,m)]) fun pos=>Zse e o.dst H v up nw fun e' H'=>ZrG Γ cf pos r e' H' k | false=>none)) (ZtM e o.dst fun e'=>Zd1 H.length fun nid=>ZmV (pos++[(nid,0)]) fun pos=>ZrG Γ cf pos r e' H k):=rfl
theorem ZzB (Γ:Ctx) (cf:Zbw) (e:Env) (nid:Nat) (o:O) (mask:List Nat) (H:Zh) (pos:List (Nat×Nat)) (k:K3 β):(ZAV o mask H pos fun Hm=>opK Γ cf e nid Hm o k)=opK Γ cf e nid (Zhx H pos mask) o k:=by
  unfold ZAV
  cases h:Zu1 o with
  | true=>dsimp only;rw[ZsN,ZsN,Zxt h (H:=H) (H':=Zhx H pos mask)]
  | false=>
    dsimp only
    cases mask with
    | nil=>rfl
    | cons a l=>dsimp only;rw[Zkq]
theorem ZqU (Γ:Ctx) (cf:Zbw):∀(l:List Op1) (pos:List (Nat×Nat)) (e:Env) (H:Zh) (k:Env→Zh→Option β),ZrG Γ cf pos l e H k=(match Zgi Γ cf pos l e H with | some (e,H)=>k e H | none=>none)
  | [],pos,e,H,k=>rfl
  | o :: l,pos,e,H,k=>by
    rw[ZuX]
    unfold Zgi
    rw[ZrV,Zer,ZzB,ZsN,Zuu,Zer,ZoE]
    cases hw:Ze5 e o.guard with
    | none=>rfl
    | some b=>
      cases b with
      | false=>exact ZqU Γ cf l _ _ _ k
      | true=>
        dsimp only
        cases ho:opE Γ cf e H.length (Zhx H pos o.mask) o.op with
        | none=>rfl
        | some q=>
          obtain⟨v,up,nw⟩:=q
          simp only[on3]
          cases hb:(ZpJ e H o up nw)<;>simp only[cond_true,cond_false,Ztz,Zer,ZoE]
          exact ZqU Γ cf l _ _ _ k
noncomputable def lpW (Γ:Ctx) (k:Nat) (live outs:List Nat) (a:C) (vs:List V) (H:Zh):Option (Ex×List V×Zh):=
  itW (fun vs H=>Zfd k live outs (ZS Γ (evW Γ) itW k a (Zea live vs) H)) vs H
noncomputable def Zim (Γ:Ctx) (k0:Nat) (c:C) (e:Env) (H:Zh) (k:Ex→Env→Zh→Option β):Option β:=
  C.rec (motive:=fun _=>Env→Zh→(Ex→Env→Zh→Option β)→Option β)
    (fun e H k=>k .normal e H) (fun e H k=>k .ret e H) (fun id e H k=>k (.exit id) e H)
    (fun _ _ ia ib e H k=>ia e H fun x e H=>(match x with | .normal=>ib e H k | .exit i=>k (.exit i) e H | .ret=>k .ret e H))
    (fun x _ _ ia ib e H k=>(match x.val e with | .d (.bool t)=>brL t (ia e H k) (ib e H k) | _=>none))
    (fun id _ ia e H k=>ia e H fun x e H=>(match x with | .exit j=>(match Nat.beq j id with | true=>k .normal e H | false=>k (.exit j) e H) | .normal=>k .normal e H | .ret=>k .ret e H))
    (fun live outs a _ e H k=>ZoK k0 (live.map e) H fun vs H=>bnd (lpW Γ k0 live outs a vs H) fun r=>k r.1 (Zea outs r.2.1) r.2.2)
    (fun l e H k=>ZwQ Γ (evW Γ) l e H fun e H=>k .normal e H)
    (fun l e H k=>ZrG Γ (evW Γ) [] l e H fun e H=>k .normal e H) c e H k
theorem Znb (Γ:Ctx) (k0:Nat):∀(c:C) (e:Env) (H:Zh) (k:Ex→Env→Zh→Option β),Zim Γ k0 c e H k=(match ZS Γ (evW Γ) itW k0 c e H with | some (x,e,H)=>k x e H | none=>none):=by
  intro c
  induction c with
  | skip=>intros;rfl
  | ret=>intros;rfl
  | exit id=>intros;rfl
  | seq a b iha ihb=>
    intro e H k
    show(Zim Γ k0 a e H fun x e H=>(match x with | .normal=>Zim Γ k0 b e H k | .exit i=>k (.exit i) e H | .ret=>k .ret e H))=_
    unfold ZS
    rw[iha]
    cases h:ZS Γ (evW Γ) itW k0 a e H with
    | none=>rfl
    | some q=>
      obtain⟨x,e1,H1⟩:=q
      cases x with
      | normal=>exact ihb e1 H1 k
      | exit i=>rfl
      | ret=>rfl
  | cond x a b iha ihb=>
    intro e H k
    show(match x.val e with | .d (.bool t)=>brL t (Zim Γ k0 a e H k) (Zim Γ k0 b e H k) | _=>none)=_
    unfold ZS
    cases h:x.val e<;>try rfl
    rename_i y
    cases y<;>try rfl
    rename_i t
    cases t
    · exact ihb e H k
    · exact iha e H k
  | block id a iha=>
    intro e H k
    show(Zim Γ k0 a e H fun x e H=>(match x with | .exit j=>(match Nat.beq j id with | true=>k .normal e H | false=>k (.exit j) e H) | .normal=>k .normal e H | .ret=>k .ret e H))=_
    unfold ZS
    rw[iha]
    cases h:ZS Γ (evW Γ) itW k0 a e H with
    | none=>rfl
    | some q=>
      obtain⟨x,e1,H1⟩:=q
      cases x with
      | normal=>rfl
      | exit j=>dsimp only;cases h2:Nat.beq j id<;>rfl
      | ret=>rfl
  | loop live outs a iha=>
    intro e H k
    show(ZoK k0 (live.map e) H fun vs H=>bnd (lpW Γ k0 live outs a vs H) fun r=>k r.1 (Zea outs r.2.1) r.2.2)=_
    unfold ZS
    rw[Zt0]
    cases h:Zo8 k0 (live.map e) H with
    | none=>rfl
    | some q=>
      obtain⟨vs,H1⟩:=q
      simp only[lpW,ZfU]
      cases h2:itW (fun vs H=>Zfd k0 live outs (ZS Γ (evW Γ) itW k0 a (Zea live vs) H)) vs H1 with
      | none=>rfl
      | some r=>obtain⟨x,vs,H⟩:=r;rfl
  | ops l=>
    intro e H k
    show(ZwQ Γ (evW Γ) l e H fun e H=>k .normal e H)=_
    unfold ZS
    rw[Zs8]
    cases h:Zhh Γ (evW Γ) l e H<;>rfl
  | draw l=>
    intro e H k
    show(ZrG Γ (evW Γ) [] l e H fun e H=>k .normal e H)=_
    unfold ZS
    rw[ZqU]
    cases h:Zgi Γ (evW Γ) [] l e H<;>rfl
theorem ZCn (Γ:Ctx) (k:Nat) (live outs:List Nat) (a:C) (vs:List V) (H:Zh) :
    lpW Γ k live outs a vs H=Zim Γ k a (Zea live vs) H fun x e H=>(match x with
      | .normal=>ZoK k (live.map e) H fun vs H=>lpW Γ k live outs a vs H
      | x=>ZfB k (outs.map e) H fun _ vs H=>some (x,vs,H)):=by
  unfold lpW
  rw[ZB9,Znb]
  cases h:ZS Γ (evW Γ) itW k a (Zea live vs) H with
  | none=>rfl
  | some q=>
    obtain⟨x,e,H1⟩:=q
    cases x with
    | normal=>
      simp only[Zfd]
      rw[Zt0]
      cases h2:Zo8 k (live.map e) H1 with
      | none=>rfl
      | some r=>obtain⟨vs,H2⟩:=r;rfl
    | exit j=>
      simp only[Zfd]
      rw[ZdC]
      cases h2:extract k (outs.map e) H1 with
      | none=>rfl
      | some r=>obtain⟨L,vs,H2⟩:=r;rfl
    | ret=>
      simp only[Zfd]
      rw[ZdC]
      cases h2:extract k (outs.map e) H1 with
      | none=>rfl
      | some r=>obtain⟨L,vs,H2⟩:=r;rfl
theorem ZBP (Γ:Ctx) (f:Nat) (fn:FnI) (args:List V) (H:Zh) (hc:Γ.code f=some fn) (hn:Nat.beq args.length fn.nargs=true) :
    evW Γ f args H=Zim Γ H.length fn.body (Zek 0 args) H fun x e H1=>(match x with
      | .exit _=>none
      | _=>(match Zln e H1 fn.res with
        | some l=>ZfB H.length [ZhA l] H1 fun _ vs H2=>(match vs with | [v]=>some (v,H2) | _=>none)
        | none=>none)):=by
  rw[ZCw]
  unfold Zlo
  simp only[hc,hn,cond_true]
  rw[Znb]
  cases h:ZS Γ (evW Γ) itW H.length fn.body (Zek 0 args) H with
  | none=>rfl
  | some q=>
    obtain⟨x,e,H1⟩:=q
    cases x<;>try rfl
    all_goals
      dsimp only
      cases h2:Zln e H1 fn.res with
      | none=>rfl
      | some l=>
        dsimp only
        rw[ZdC]
        cases h3:extract H.length [ZhA l] H1 with
        | none=>rfl
        | some q=>
          obtain⟨L,vs,H2⟩:=q
          match vs with
          | []=>rfl
          | [v]=>rfl
          | _ :: _ :: _=>rfl
end
theorem ZA6 {β:Type} (x y:Option β):br true x y=x:=ZeB _ _ _
theorem ZBw {β:Type} (x y:Option β):br false x y=y:=ZeB _ _ _
theorem ZtD {β:Type} (x:Option β):bnd x some=x:=by rw[ZfU];cases x<;>rfl
attribute [irreducible] br bnd lpW
end Go.Proofs.YtgcfmiajkbbmeaaGreatDoorE
namespace Go.Proofs.YtgcfmiajkbbmeaaGreatDoorE
open Go
open Go.IntKind (u64 i64 u32 i32 u8)
structure ZE4 where
 op:Int
 arg:Int
 work:Int
 deriving DecidableEq
structure Zy where
 src:Int
 dst:Int
 deriving DecidableEq
structure ZvD where
 maker:Int
 user:Int
 pos:Int
 deriving DecidableEq
structure ZtK where
 ins:List Int
 outs:List Int
 deriving DecidableEq
structure Zyg where
 period:Int
 deadline:Int
 parts:List ZE4
 edges:List Zy
 futures:List ZvD
 barriers:List ZtK
 deriving DecidableEq
abbrev Zb (n:Int):D:=.int .i64 n
abbrev ZdU (τ:Bool) (l:List Int):D:=.list τ (l.map Zb)
abbrev ZA (e:Zy):D:=.agg [Zb e.src,Zb e.dst]
theorem ZCT {n:Int} (h1 : -9223372036854775808≤n) (h2:n<9223372036854775808):i64.wrap n=n:=by
 show(if (true&&decide (n % 18446744073709551616 ≥ 9223372036854775808))=true then n % 18446744073709551616-18446744073709551616 else n % 18446744073709551616)=n
 by_cases h:n % 18446744073709551616 ≥ 9223372036854775808
 ·rw[decide_eq_true h];simp only[Bool.and_self,if_true];omega
 ·rw[decide_eq_false h];simp only[Bool.and_false,Bool.false_eq_true,if_false];omega
theorem ZyW {α:Type} (xs:List α) (i:Nat):Zp xs (i:Int)=xs[i]?:=by
 unfold Zp
 have:decide ((0:Int)≤i)=true:=by simp
 rw[this];simp[Z6]
theorem ZEG (Γ:Ctx) (k:Nat) (live outs:List Nat) (a:C) (vs:List V) (H:Zh) :
  lpW Γ k live outs a vs H=Zim Γ k a (Zea live vs) H fun x e H=>(match x with
   | .normal=>ZoK k (live.map e) H fun vs H=>bnd (lpW Γ k live outs a vs H) some
   | x=>ZfB k (outs.map e) H fun _ vs H=>some (x,vs,H)):=by
 refine(ZCn Γ k live outs a vs H).trans (congrArg (Zim Γ k a (Zea live vs) H) ?_)
 funext x e H
 cases x
 ·exact congrArg (ZoK k (live.map e) H) (funext fun vs=>funext fun H=>(ZtD _).symm)
 ·rfl
 ·rfl
theorem ZlY {α:Type}{f:α→D}{sz:Nat} (hf:∀x,(f x).cells.length=sz∧(V.d (f x)).okb=true) (l:List α) (i:Nat):ZjS sz (l.map f) i=true:=by
 unfold ZjS
 rw[Z6,List.getElem?_map]
 cases l[i]? with
 | none=>rfl
 | some x=>simp[hf x]
theorem ZDO {β:Type}{c:Bool}{x y:Option β} (h:c=true):br c x y=x:=by rw[h,ZA6]
theorem ZFH {β:Type}{c:Bool}{x y:Option β} (h:c=false):br c x y=y:=by rw[h,ZBw]
def first {α:Type} (p:α→Bool):Nat→List α→Option Nat
 | _,[]=>none
 | i,x :: l=>bif p x then some i else first p (i+1) l
theorem ZCa {Γ:Ctx}{f:Nat}{args:List V}{H:Zh}{r:V×Zh} (n:Nat) (h:evN Γ n f args H=some r):evW Γ f args H=some r:=(Zju Γ f args H r).2 ⟨n,h⟩
theorem Zs7 {α:Type}{f:α→D}{p:α→Prop}:∀{xs:List D},(∀y∈xs,∃a,y=f a∧p a)→∃l:List α,xs=l.map f∧∀a∈l,p a
 | [],_=>⟨[],rfl,by simp⟩
 | x :: xs,h=>by
  obtain⟨a,ha,hp⟩:=h x (by simp)
  obtain⟨l,hl,hq⟩:=Zs7 (xs:=xs) fun y hy=>h y (by simp[hy])
  refine⟨a :: l,by rw[ha,hl];rfl,fun b hb=>?_⟩
  rcases List.mem_cons.1 hb with rfl | hb
  ·exact hp
  ·exact hq b hb
def I64 (n:Int):Prop:=-9223372036854775808≤n∧n<9223372036854775808
theorem Zth {n:Int} (h:(Lit.int .i64 n).wf=true):I64 n:=by
 unfold Lit.wf at h
 simp only[Bool.and_eq_true,decide_eq_true_eq] at h
 have e1:i64.min = -9223372036854775808:=by decide
 have e2:i64.max=9223372036854775807:=by decide
 rw[e1,e2] at h
 unfold I64
 omega
theorem ZCZ {y:D}{n:Nat} (h:y.isAgg=true):y = .agg y.cells:=by
 cases y<;>first | rfl | cases h
theorem ZA4 {y:D} (h:y.isAgg=false):y.cells=[y]:=by
 cases y<;>first | rfl | cases h
theorem ZBZ {n:Nat} (h:n≤maxLen):n<9223372036854775808:=by
 unfold maxLen at h;omega
def ZDq (l:List Int):Prop:=l.length<9223372036854775808∧∀n∈l,I64 n
theorem ZvN {x:D} (h:ZA5 (.sl false [.int .i64]) x):∃l,x=ZdU true l∧ZDq l:=by
 obtain⟨xs,rfl,h1,h2⟩:=h
 obtain⟨l,hl,hp⟩:=Zs7 (f:=Zb) (p:=I64) (xs:=xs) fun y hy=>by
  obtain⟨a1,a2⟩:=h2 y hy
  rw[ZA4 a1] at a2
  obtain⟨d,r,e1,⟨n,e2,e3⟩,_⟩:=a2
  cases e1
  exact⟨n,e2,Zth e3⟩
 subst hl
 exact⟨l,rfl,by simpa using ZBZ h1,hp⟩
def ZCB (e:Zy):Prop:=I64 e.src∧I64 e.dst
theorem ZAO {x:D}{els:List Lf}{α:Type}{f:α→D}{p:α→Prop} (h:ZA5 (.sl true els) x) (hf:∀cs,Zg7 els cs→∃a,D.agg cs=f a∧p a):∃l:List α,x = .list true (l.map f)∧l.length<9223372036854775808∧∀a∈l,p a:=by
 obtain⟨xs,rfl,h1,h2⟩:=h
 obtain⟨l,hl,hp⟩:=Zs7 (f:=f) (p:=p) (xs:=xs) fun y hy=>by
  obtain⟨a1,a2⟩:=h2 y hy
  rw[ZCZ (n:=0) a1]
  exact hf _ a2
 subst hl
 exact⟨l,rfl,by simpa using ZBZ h1,hp⟩
theorem ZCM {xs:List D} (h:Zg7 [.int .i64] xs):∃n,ZmU false xs=Zb n∧I64 n:=by
 obtain⟨_,_,rfl,⟨n,rfl,w⟩,rfl⟩:=h
 exact⟨n,rfl,Zth w⟩
def lpN {S R:Type} (step:S→Option (S⊕R)):Nat→S→Option R
 | 0,_=>none
 | n+1,s=>(match step s with | some (.inl s')=>lpN step n s' | some (.inr r)=>some r | none=>none)
theorem ZuG {S R:Type} (step:S→Option (S⊕R)):∀(n m:Nat) (s:S) (r:R),n≤m→lpN step n s=some r→lpN step m s=some r
 | 0,_,_,_,_,h=>by cases h
 | n+1,0,_,_,hm,_=>by omega
 | n+1,m+1,s,r,hm,h=>by
  unfold lpN at h ⊢
  cases hs:step s with
  | none=>rw[hs] at h;cases h
  | some t=>
   rw[hs] at h
   cases t with
   | inl s'=>exact ZuG step n m s' r (by omega) h
   | inr r'=>exact h
noncomputable def lp {S R:Type} (step:S→Option (S⊕R)) (s:S):Option R:=@dite _ (∃n,(lpN step n s).isSome=true) (Classical.propDecidable _) (fun h=>lpN step (Classical.choose h) s) fun _=>none
theorem Zyj {S R:Type}{step:S→Option (S⊕R)}{s:S}{r:R}{n:Nat} (h:lpN step n s=some r):lp step s=some r:=by
 unfold lp
 have hx:∃n,(lpN step n s).isSome=true:=⟨n,by rw[h];rfl⟩
 rw[dif_pos hx]
 have h2:=Classical.choose_spec hx
 cases h3:lpN step (Classical.choose hx) s with
 | none=>rw[h3] at h2;cases h2
 | some q=>
  have h4:=ZuG step _ (max n (Classical.choose hx)) s q (by omega) h3
  have h5:=ZuG step _ (max n (Classical.choose hx)) s r (by omega) h
  rw[h4] at h5
  exact h5
theorem ZzG {S R:Type}{step:S→Option (S⊕R)}{s:S}{r:R} (h:lp step s=some r):∃n,lpN step n s=some r:=by
 unfold lp at h
 split at h
 ·exact⟨_,h⟩
 ·cases h
theorem ZaT {S R:Type} (step:S→Option (S⊕R)) (s:S):lp step s=(match step s with | some (.inl s')=>lp step s' | some (.inr r)=>some r | none=>none):=by
 have key:∀r,lp step s=some r↔(match step s with | some (.inl s')=>lp step s' | some (.inr r)=>some r | none=>none)=some r:=by
  intro r
  constructor
  ·intro h
   obtain⟨n,hn⟩:=ZzG h
   cases n with
   | zero=>cases hn
   | succ n=>
    unfold lpN at hn
    cases hs:step s with
    | none=>rw[hs] at hn;cases hn
    | some t=>
     rw[hs] at hn
     cases t with
     | inl s'=>exact Zyj hn
     | inr r'=>exact hn
  ·intro h
   cases hs:step s with
   | none=>rw[hs] at h;cases h
   | some t=>
    rw[hs] at h
    cases t with
    | inl s'=>
     obtain⟨n,hn⟩:=ZzG h
     exact Zyj (n:=n+1) (by unfold lpN;rw[hs];exact hn)
    | inr r'=>exact Zyj (n:=1) (by unfold lpN;rw[hs];exact h)
 cases h1:lp step s with
 | some r=>exact((key r).1 h1).symm
 | none=>
  cases h2:(match step s with | some (.inl s')=>lp step s' | some (.inr r)=>some r | none=>none) with
  | none=>rfl
  | some r=>rw[(key r).2 h2] at h1;cases h1
theorem Zqf {S R:Type}{step:S→Option (S⊕R)}{s s':S} (h:step s=some (.inl s')):lp step s=lp step s':=by rw[ZaT,h]
theorem ZBk {S R:Type}{step:S→Option (S⊕R)}{s:S}{r:R} (h:step s=some (.inr r)):lp step s=some r:=by rw[ZaT,h]
noncomputable def ZwY {R:Type} (g:Nat→Option R):Option R:=@dite _ (∃r:R,∃N,∀n,N≤n→g n=some r) (Classical.propDecidable _) (fun h=>some (Classical.choose h)) fun _=>none
theorem ZBj {R:Type}{g:Nat→Option R}{r:R} (h:ZwY g=some r):∃n,g n=some r:=by
 unfold ZwY at h
 split at h
 ·rename_i hx
  obtain⟨N,hN⟩:=Classical.choose_spec hx
  exact⟨N,(hN N (Nat.le_refl _)).trans h⟩
 ·cases h
theorem ZAG {R:Type}{g:Nat→Option R}{N:Nat}{r:R} (h:∀n,N≤n→g n=some r):ZwY g=some r:=by
 have hx:∃r:R,∃N,∀n,N≤n→g n=some r:=⟨r,N,h⟩
 unfold ZwY
 rw[dif_pos hx]
 obtain⟨M,hM⟩:=Classical.choose_spec hx
 rw[← hM (max N M) (by omega),h (max N M) (by omega)]
def ZdK {α β:Type} (E:Option α) (Q:α→Option β→Prop) (rhs:Option β):Prop:=∀a,E=some a→Q a rhs
section
variable {α β:Type} {A B:Option α} {Q:α→Option β→Prop}
theorem Zen {c c':Bool}{X Y:Option β} (h:c=c') (h1:ZdK A Q X) (h2:ZdK B Q Y):ZdK (bif c' then A else B) Q (br c X Y):=by
 subst h
 cases c with
 | true=>rw[ZA6];exact h1
 | false=>rw[ZBw];exact h2
theorem Zr4 {c:Bool}{X Y:Option β} (h:c=true) (h1:ZdK A Q X):ZdK A Q (br c X Y):=by rw[h,ZA6];exact h1
theorem ZEC {c:Bool}{X Y:Option β} (h:c=false) (h1:ZdK A Q Y):ZdK A Q (br c X Y):=by rw[h,ZBw];exact h1
theorem Zi {γ:Type}{x x':γ}{K:γ→Option β} (h:x=x') (k:ZdK A Q (K x')):ZdK A Q (bnd (some x) K):=by rw[h,Zl2];exact k
theorem Zf {γ:Type}{X:Option γ}{x:γ}{K:γ→Option β} (h:X=some x) (k:ZdK A Q (K x)):ZdK A Q (bnd X K):=by rw[h,Zl2];exact k
theorem Zc {γ δ:Type}{E:Option γ}{A:γ→Option α}{X:Option δ}{K:δ→Option β} (enc:γ→δ) (h:∀r,E=some r→X=some (enc r)) (k:∀r,E=some r→ZdK (A r) Q (K (enc r))):ZdK (E.bind A) Q (bnd X K):=by
 intro a ha
 cases hE:E with
 | none=>rw[hE] at ha;cases ha
 | some r=>
  rw[hE] at ha
  rw[h r hE,Zl2]
  exact k r hE a ha
theorem Zum {γ δ:Type} (f:γ→δ) (l:List γ) (i:Int):Zp (l.map f) i=(Zp l i).map f:=by
 unfold Zp
 cases decide (0≤i) with
 | false=>rfl
 | true=>simp only[cond_true,Z6,List.getElem?_map]
theorem ZAD {γ:Type}{f:γ→D}{l:List γ}{xs:List D}{i i':Int}{A:γ→Option α}{K:D→Option β} (hx:xs=l.map f) (hi:i=i') (k:∀r,Zp l i'=some r→ZdK (A r) Q (K (f r))):ZdK ((Zp l i').bind A) Q (bnd (Zp xs i) K):=by
 subst hx hi
 exact Zc f (fun r h=>by rw[Zum,h];rfl) k
theorem Zn {γ:Type}{f:γ→D}{l:List γ}{xs:List D}{i:Int}{r:γ} (hx:xs=l.map f) (h:Zp l i=some r):nth xs i.toNat=some (f r):=by
 subst hx
 unfold Zp at h
 cases hd:decide (0≤i) with
 | false=>rw[hd] at h;cases h
 | true=>rw[hd,cond_true,Z6] at h;rw[Z6,List.getElem?_map,h];rfl
theorem ZaV {γ:Type}{f:γ→D}{l:List γ}{xs:List D}{i:Int}{r:γ} (hx:xs=l.map f) (h:Zp l i=some r):Zp xs i=some (f r):=by
 subst hx
 rw[Zum,h];rfl
theorem Zh7 {γ:Type}{E X:Option γ}{A:γ→Option α}{K:γ→Option β} (h:X=E) (k:∀r,E=some r→ZdK (A r) Q (K r)):ZdK (E.bind A) Q (bnd X K):=by
 subst h
 exact Zc id (fun r h=>h) k
theorem Zm {a:α}{X:Option β} (h:Q a X):ZdK (some a) Q X:=fun b hb=>by cases hb;exact h
theorem Zce {X:Option β}:ZdK (none:Option α) Q X:=fun b hb=>by cases hb
noncomputable def evD (Γ:Ctx) (f:Nat) (args:List V):Option D:=bnd (evW Γ f args []) fun r=>(match fr r.2 6 r.1 with | some (x,_)=>some x | none=>none)
theorem Zxg (Γ:Ctx) (f:Nat) (args:List V) (K:V→Option β):bnd (evW Γ f args []) (ZoG K)=bnd (evD Γ f args) (fun x=>ZwF x K):=by
 unfold evD ZoG
 simp only[ZfU]
 cases evW Γ f args [] with
 | none=>rfl
 | some r=>
  dsimp only
  cases fr r.2 6 r.1 with
  | none=>rfl
  | some q=>rfl
theorem Zzy {γ:Type}{Γ:Ctx}{f:Nat}{args args':List V}{E:Option γ}{A:γ→Option α}{K:V→Option β} (enc:γ→D) (w:∀r,E=some r→evD Γ f args'=some (enc r)) (ha:args=args') (k:∀r,E=some r→ZdK (A r) Q (ZwF (enc r) K)):ZdK (E.bind A) Q (bnd (evW Γ f args []) (ZoG K)):=by
 subst ha
 rw[Zxg]
 exact Zc enc w k
end
theorem ZwK {β δ:Type} (Γ:Ctx) (k0:Nat) (c:C) (e:Env) (H:Zh) (k:Ex→Env→Zh→Option β) (p:β→Option δ):bnd (Zim Γ k0 c e H k) p=Zim Γ k0 c e H fun x e H=>bnd (k x e H) p:=by
 rw[Znb,Znb]
 cases ZS Γ (evW Γ) itW k0 c e H with
 | none=>exact ZfU _ _
 | some q=>rfl
theorem ZBL (Γ:Ctx) (f:Nat) (fn:FnI) (args:List V) (hc:Γ.code f=some fn) (hn:Nat.beq args.length fn.nargs=true) :
  evD Γ f args=Zim Γ 0 fn.body (Zek 0 args) [] fun x e H1=>(match x with
   | .exit _=>none
   | _=>(match Zln e H1 fn.res with
    | some l=>ZfB 0 [ZhA l] H1 fun _ vs H2=>(match vs with | [v]=>(match fr H2 6 v with | some (x,_)=>some x | none=>none) | _=>none)
    | none=>none)):=by
 unfold evD
 rw[ZBP Γ f fn args [] hc hn,ZwK]
 refine congrArg (Zim Γ 0 fn.body (Zek 0 args) []) ?_
 funext x e H1
 have none_b:∀{γ δ:Type} (p:γ→Option δ),bnd none p=none:=fun p=>ZfU _ _
 cases x with
 | exit j=>exact none_b _
 | normal=>
  dsimp only
  cases Zln e H1 fn.res with
  | none=>exact none_b _
  | some l=>
   dsimp only
   rw[ZdC,ZdC]
   show bnd (match extract 0 [ZhA l] H1 with | some (L,vs,H)=>_ | none=>none) _=_
   cases extract 0 [ZhA l] H1 with
   | none=>exact none_b _
   | some q=>
    obtain⟨L,vs,H2⟩:=q
    match vs with
    | []=>exact none_b _
    | [v]=>exact Zl2 _ _
    | _ :: _ :: _=>exact none_b _
 | ret=>
  dsimp only
  cases Zln e H1 fn.res with
  | none=>exact none_b _
  | some l=>
   dsimp only
   rw[ZdC,ZdC]
   show bnd (match extract 0 [ZhA l] H1 with | some (L,vs,H)=>_ | none=>none) _=_
   cases extract 0 [ZhA l] H1 with
   | none=>exact none_b _
   | some q=>
    obtain⟨L,vs,H2⟩:=q
    match vs with
    | []=>exact none_b _
    | [v]=>exact Zl2 _ _
    | _ :: _ :: _=>exact none_b _
theorem ZC2 {Γ:Ctx}{f:Nat}{args:List V}{x:D} (n:Nat) (h:(match evN Γ n f args [] with | some (v,H)=>(match fr H 6 v with | some (x,_)=>some x | none=>none) | none=>none)=some x):evD Γ f args=some x:=by
 cases hn:evN Γ n f args [] with
 | none=>rw[hn] at h;cases h
 | some r=>
  rw[hn] at h
  obtain⟨v,H⟩:=r
  unfold evD
  rw[ZCa n hn,Zl2]
  exact h
theorem ZD1 {S R β:Type}{step:S→Option (S⊕R)}{G:S→Option β} (x:R→β)
  (h:∀(s:S) (rec:S→Option R),(∀s r,rec s=some r→G s=some (x r))→ZdK (step s) (fun t rhs=>(match t with | .inl s'=>∀r,rec s'=some r→rhs=some (x r) | .inr r=>rhs=some (x r))) (G s)):∀s r,lp step s=some r→G s=some (x r):=by
 intro s r hr
 obtain⟨n,hn⟩:=ZzG hr
 clear hr
 induction n generalizing s r with
 | zero=>cases hn
 | succ n ih=>
  unfold lpN at hn
  cases hs:step s with
  | none=>rw[hs] at hn;cases hn
  | some t=>
   rw[hs] at hn
   have:=h s (lpN step n) ih t hs
   cases t with
   | inl s'=>exact this r hn
   | inr r'=>cases hn;exact this
theorem Zd {S R β:Type}{G:Option β}{rec:S→Option R}{x:R→β}{s':S} (h:∀r,rec s'=some r→G=some (x r)):ZdK (some (Sum.inl s')) (fun(t:S⊕R) (rhs:Option β)=>(match t with | .inl s'=>∀r,rec s'=some r→rhs=some (x r) | .inr r=>rhs=some (x r))) (bnd G some):=by
 intro a ha
 cases ha
 intro r hr
 rw[ZtD]
 exact h r hr
theorem ZAo {Γ:Ctx}{f:Nat}{args:List V} (h:evD Γ f args=some (.bool true)):∃H',evW Γ f args []=some (.d (.bool true),H'):=by
 unfold evD at h
 rw[ZfU] at h
 cases he:evW Γ f args [] with
 | none=>rw[he] at h;cases h
 | some r=>
  obtain⟨v,H⟩:=r
  rw[he] at h
  refine⟨H,?_⟩
  dsimp only at h
  cases hf:fr H 6 v with
  | none=>rw[hf] at h;cases h
  | some q=>
   obtain⟨x,ks⟩:=q
   rw[hf] at h
   cases h
   unfold fr at hf
   split at hf
   ·rename_i x
    split at hf
    ·rename_i ts
     cases he:Zvn ts<;>rw[he] at hf<;>cases hf
    ·rename_i y hy
     cases he:x.esc<;>rw[he] at hf<;>cases hf
     rfl
   all_goals
    first
    | cases hf
    | (split at hf<;>first | cases hf | (rename_i sz' xs _;revert hf;cases Nat.beq _ sz'<;>intro hf<;>cases hf) | skip)
   all_goals
    rename_i l ks _
    first
    | (cases he:D.escs l<;>rw[he] at hf<;>cases hf)
    | cases hf
theorem ZuB {α β:Type}{A B:Option α}{Q:α→Option β→Prop}{X:Option β} (h:ZdK A Q X):ZdK (bif true then A else B) Q X:=h
theorem Zvl {α β:Type}{A B:Option α}{Q:α→Option β→Prop}{X:Option β} (h:ZdK B Q X):ZdK (bif false then A else B) Q X:=h
abbrev w64 (n:Int):Int:=i64.wrap n
section
variable {γ:Type}
theorem ZC (f:γ→D) (l:List γ):(((List.map f l).length:Nat):Int)=((l.length:Nat):Int):=by rw[List.length_map]
theorem Zjz (f:γ→D) (z:γ) (n:Int):List.replicate n.toNat (f z)=List.map f (List.replicate n.toNat z):=by rw[List.map_replicate]
theorem Zsc {α:Type}:∀(l:List α) (i:Nat) (y:α),Zf7 l i y=l.set i y
 | [],_,_=>rfl
 | _ :: _,0,_=>rfl
 | x :: l,i+1,y=>congrArg (x :: ·) (Zsc l i y)
theorem Zac (f:γ→D) (l:List γ) (i:Nat) (y:γ):Zf7 (List.map f l) i (f y)=List.map f (List.set l i y):=by rw[Zsc,List.map_set]
theorem Zhp (f:γ→D) (l m:List γ):List.map f l++List.map f m=List.map f (l++m):=by rw[List.map_append]
theorem Zhu (f:γ→D) (l:List γ) (n:Nat):Nat.ble ((List.map f l).length+n) lim=Nat.ble (l.length+n) lim:=by rw[List.length_map]
theorem ZnT (f:γ→D) (l:List γ):Nat.ble (List.map f l).length lim=Nat.ble l.length lim:=by rw[List.length_map]
theorem Zz1 (f:γ→D) (l:List γ) (o n:Nat):List.take n (List.drop o (List.map f l))=List.map f (List.take n (List.drop o l)):=by rw[← List.map_drop,← List.map_take]
theorem Zta (f:γ→D) (l:List γ) (hi:Nat):List.take (hi-0) (List.drop 0 (List.map f l))=List.map f (List.take hi l):=by rw[Zz1];rfl
theorem Zve (f:γ→D) (l:List γ) (lo:Nat):List.take ((List.map f l).length-lo) (List.drop lo (List.map f l))=List.map f (List.drop lo l):=by
 rw[Zz1,List.length_map,List.take_of_length_le (by rw[List.length_drop];exact Nat.le_refl _)]
theorem ZCe (f:γ→D) {sz:Nat} (hf:∀x,(f x).cells.length=sz∧(V.d (f x)).okb=true) (l:List γ) (i:Nat):(Nat.beq i 0 || ZjS sz (List.map f l) i)=true:=by rw[ZlY hf,Bool.or_true]
theorem ZxN (f:γ→D) (l:List γ) (lo:Nat):(Nat.ble lo (List.map f l).length&&Nat.ble (List.map f l).length (List.map f l).length)=Nat.ble lo l.length:=by rw[List.length_map,Nat.ble_eq_true_of_le (Nat.le_refl l.length),Bool.and_true]
theorem Zy1 (f:γ→D) (l:List γ) (hi:Nat):(Nat.ble 0 hi&&Nat.ble hi (List.map f l).length)=Nat.ble hi l.length:=by rw[List.length_map];cases hi<;>rfl
end
end Go.Proofs.YtgcfmiajkbbmeaaGreatDoorE
namespace Go.Proofs.YtgcfmiajkbbmeaaGreatDoorE
open Go
open Go.IntKind (u64 i64 u32 i32 u8)
theorem ZfF {i n:Nat} (h:i<n):decide ((i:Int)<(n:Int))=true:=decide_eq_true (by omega)
theorem ZfV (n:Nat):decide ((n:Int)<(n:Int))=false:=decide_eq_false (by omega)
theorem Zab {γ:Type}{l:List γ}{i:Nat}{x:γ} (h:l[i]? = some x):Zp l (i:Int)=some x:=(ZyW l i).trans h
theorem Zq3 {γ:Type}{l:List γ}{i:Int}{x:γ} (h0:0≤i) (h:l[i.toNat]? = some x):Zp l i=some x:=by
 have:=Zab h
 rwa [Int.toNat_of_nonneg h0] at this
theorem ZbZ {n:Int} (h1 : -9223372036854775808≤n) (h2:n<9223372036854775808):w64 n=n:=ZCT h1 h2
theorem Zag {i n:Nat} (h:i<n) (hn:n<9223372036854775808):w64 ((i:Int)+1)=((i+1:Nat):Int):=by rw[ZbZ (by omega) (by omega)];omega
theorem Zjw {n:Nat} (h:n≤1073741824):Nat.ble n lim=true:=Nat.ble_eq_true_of_le h
def Zrh {γ S R:Type} (f:Nat→γ→S→Option (S⊕R)) (fin:S→Option R):Nat→List γ→S→Option R
 | _,[],s=>fin s
 | i,x :: l,s=>(match f i x s with | some (.inl s')=>Zrh f fin (i+1) l s' | some (.inr r)=>some r | none=>none)
theorem ZvH {γ S St R:Type} (l:List γ) (step:St→Option (St⊕R)) (st:Nat→S→St) (f:Nat→γ→S→Option (S⊕R)) (fin:S→Option R)
  (h1:∀i x s,i<l.length→l[i]? = some x→step (st i s)=(match f i x s with | some (.inl s')=>some (.inl (st (i+1) s')) | some (.inr r)=>some (.inr r) | none=>none))
  (h2:∀s,step (st l.length s)=(fin s).map Sum.inr):∀s,lp step (st 0 s)=Zrh f fin 0 l s:=by
 have key:∀(k i:Nat) (s:S),i+k=l.length→lp step (st i s)=Zrh f fin i (l.drop i) s:=by
  intro k
  induction k with
  | zero=>
   intro i s hi
   have:i=l.length:=by omega
   subst this
   rw[List.drop_length,ZaT,h2]
   unfold Zrh
   cases fin s<;>rfl
  | succ k ih=>
   intro i s hi
   have hi':i<l.length:=by omega
   rw[List.drop_eq_getElem_cons hi',ZaT,h1 i l[i] s hi' (List.getElem?_eq_getElem hi')]
   conv=>rhs;unfold Zrh
   cases f i l[i] s with
   | none=>rfl
   | some t=>
    cases t with
    | inl s'=>exact ih (i+1) s' (by omega)
    | inr r=>rfl
 intro s
 have:=key l.length 0 s (by omega)
 rwa [List.drop_zero] at this
def Zk6 {γ R:Type} (p:Nat→γ→Bool) (out:Nat→γ→R) (fin:R):Nat→List γ→R
 | _,[]=>fin
 | i,x :: l=>bif p i x then out i x else Zk6 p out fin (i+1) l
theorem Zl5 {γ R:Type} (l:List γ) (step:Int→Option (Int⊕R)) (p:Nat→γ→Bool) (out:Nat→γ→R) (fin:R)
  (h1:∀i x,i<l.length→l[i]? = some x→step (i:Int)=some (bif p i x then .inr (out i x) else .inl ((i+1:Nat):Int)))
  (h2:step (l.length:Int)=some (.inr fin)):lp step 0=some (Zk6 p out fin 0 l):=by
 have key:=ZvH (S:=Unit) l step (fun i _=>(i:Int)) (fun i x _=>some (bif p i x then .inr (out i x) else .inl ())) (fun _=>some fin)
  (fun i x s hi hx=>by rw[h1 i x hi hx];cases p i x<;>rfl) (fun _=>h2) ()
 refine(key:lp step 0=_).trans ?_
 have:∀(l:List γ) (i:Nat),Zrh (S:=Unit) (fun i x _=>some (bif p i x then Sum.inr (out i x) else Sum.inl ())) (fun _=>some fin) i l ()=some (Zk6 p out fin i l):=by
  intro l
  induction l with
  | nil=>intro i;rfl
  | cons x l ih=>
   intro i
   unfold Zrh Zk6
   cases p i x with
   | true=>rfl
   | false=>exact ih (i+1)
 exact this l 0
def Zms {γ:Type} (p:Nat→γ→Bool):Nat→List γ→Bool
 | _,[]=>false
 | i,x :: l=>p i x || Zms p (i+1) l
theorem Zts {γ:Type} (p:γ→Bool):∀(l:List γ) (i:Nat),Zms (fun _=>p) i l=l.any p
 | [],_=>rfl
 | x :: l,i=>by rw[Zms,List.any_cons,Zts p l]
theorem ZkN {γ R:Type} (p:Nat→γ→Bool) (c fin:R):∀(l:List γ) (i:Nat),Zk6 p (fun _ _=>c) fin i l=bif Zms p i l then c else fin
 | [],_=>rfl
 | x :: l,i=>by
  unfold Zk6 Zms
  rw[ZkN p c fin l (i+1)]
  cases p i x<;>rfl
theorem Zqq {γ R:Type} (p:γ→Bool) (fin:R):∀(l:List γ) (i:Nat),(∃j:Nat,Zk6 (fun _=>p) (fun i _=>(Sum.inl (i:Int):Int⊕R)) (.inr fin) i l = .inl (j:Int)∧l.any p=true)∨(Zk6 (fun _=>p) (fun i _=>(Sum.inl (i:Int):Int⊕R)) (.inr fin) i l = .inr fin∧l.any p=false)
 | [],_=>.inr ⟨rfl,rfl⟩
 | x :: l,i=>by
  unfold Zk6
  rw[List.any_cons]
  cases h:p x with
  | true=>exact .inl ⟨i,rfl,rfl⟩
  | false=>simpa using Zqq p fin l (i+1)
theorem ZtL {γ:Type} (p:Nat→γ→Bool):∀(l:List γ) (i:Nat),Zms p i l=true↔∃j x,l[j]? = some x∧p (i+j) x=true
 | [],i=>by simp[Zms]
 | x :: l,i=>by
  rw[Zms,Bool.or_eq_true,ZtL p l (i+1)]
  constructor
  ·rintro (h | ⟨j,y,hj,hp⟩)
   ·exact⟨0,x,rfl,h⟩
   ·exact⟨j+1,y,by simpa using hj,by rw[show i+(j+1)=i+1+j by omega];exact hp⟩
  ·rintro ⟨j,y,hj,hp⟩
   cases j with
   | zero=>left;simp at hj;subst hj;exact hp
   | succ j=>right;exact⟨j,y,by simpa using hj,by rw[show i+1+j=i+(j+1) by omega];exact hp⟩
end Go.Proofs.YtgcfmiajkbbmeaaGreatDoorE
namespace Go.Proofs.YtgcfmiajkbbmeaaGreatDoor
open Go Go.Proofs.YtgcfmiajkbbmeaaGreatDoorE
open Go.IntKind (u64 i64 u32 i32 u8)
def lf (left:List Int) (n:Int):Int:=match left[n.toNat]? with | some x=>x | none=>0
theorem ZjU {left:List Int}{n:Int} (h0:0≤n) (h:n.toNat<left.length):left[n.toNat]? = some (lf left n):=by
  unfold lf
  rw[List.getElem?_eq_getElem h]
theorem ZqZ {left:List Int}{i:Nat}{x:Int} (h:left[i]? = some x):lf left (i:Int)=x:=by
  unfold lf
  rw[Int.toNat_natCast,h]
theorem Zm1 {left:List Int}{n v k:Int} (hn:0≤n∧n.toNat<left.length) (hk:0≤k):lf (left.set n.toNat v) k=if k=n then v else lf left k:=by
  unfold lf
  rw[List.getElem?_set]
  by_cases h:n.toNat=k.toNat
  · rw[if_pos h,if_pos hn.2,if_pos (by omega)]
  · rw[if_neg h,if_neg (by omega)]
def isN (left:List Int) (n:Int):Prop:=0≤n∧n.toNat<left.length
def ZkH (E:List Zy) (left:List Int) (n:Int):Prop:=∀e∈E,e.dst=n→lf left e.src=0
def Rdy (E:List Zy) (left on:List Int) (n:Int):Prop:=isN left n∧0<lf left n∧n∉on∧ZkH E left n
def Zrw (row:List Int):Prop:=∀(i j:Nat) (n:Int),row[i]? = some n→row[j]? = some n→n ≠ -1→i=j
structure ZgF (E:List Zy) (left on:List Int):Prop where
  rng:∀x∈left,0≤x∧x≤1000
  run:∀n∈on,n = -1∨(isN left n∧0<lf left n∧ZkH E left n)
  one:Zrw on
  over:∀n,isN left n→lf left n=0→ZkH E left n
structure ZgS (E:List Zy) (left on row:List Int):Prop where
  len:row.length=on.length
  keep:∀(c:Nat) (n:Int),on[c]? = some n→n ≠ -1→row[c]? = some n
  new:∀(c:Nat) (n:Int),on[c]? = some (-1)→row[c]? = some n→n = -1∨Rdy E left on n
  one:Zrw row
  all : -1∈row→∀n,¬Rdy E left row n
def dec (left:List Int) (n:Int):List Int:=if n = -1 then left else left.set n.toNat (lf left n-1)
def Zak (left row:List Int):List Int:=row.foldl dec left
def Zax (left row:List Int):List Int:=row.map fun n=>if n = -1 then -1 else if lf (Zak left row) n=0 then -1 else n
theorem Zpr (left:List Int) (n:Int):(dec left n).length=left.length:=by unfold dec;split<;>simp
theorem Zet:∀(row left:List Int),(Zak left row).length=left.length
  | [],_=>rfl
  | n :: row,left=>by
    show(Zak (dec left n) row).length=_
    rw[Zet row,Zpr]
theorem Zrw.tail {n:Int}{row:List Int} (h:Zrw (n :: row)):Zrw row∧(n ≠ -1→n∉row):=by
  refine⟨fun i j k h1 h2 h3=>?_,fun hn hm=>?_⟩
  · have:=h (i+1) (j+1) k h1 h2 h3
    omega
  · obtain⟨i,hi⟩:=List.getElem?_of_mem hm
    have:=h 0 (i+1) n rfl hi hn
    omega
theorem ZlT:∀(row left:List Int),Zrw row→(∀n∈row,n = -1∨isN left n)→∀k,0≤k→lf (Zak left row) k=if k∈row then lf left k-1 else lf left k
  | [],left,_,_,k,_=>by simp[Zak]
  | n :: row,left,ho,hr,k,hk=>by
    obtain⟨ho1,ho2⟩:=ho.tail
    have ih:=ZlT row (dec left n) ho1 (fun m hm=>by
      rcases hr m (by simp[hm]) with h | h
      · exact .inl h
      · exact .inr ⟨h.1,by rw[Zpr];exact h.2⟩) k hk
    show lf (Zak (dec left n) row) k=_
    rw[ih]
    by_cases hn:n = -1
    · have e:dec left n=left:=by unfold dec;rw[if_pos hn]
      rw[e]
      have:(k∈n :: row)=(k∈row):=by
        rw[List.mem_cons]
        exact propext ⟨fun h => by rcases h with h | h; · omega
                                   · exact h,.inr⟩
      simp only[this]
    · have hin:isN left n:=by
        rcases hr n (by simp) with h | h
        · exact absurd h hn
        · exact h
      have e:lf (dec left n) k=if k=n then lf left n-1 else lf left k:=by
        unfold dec
        rw[if_neg hn]
        exact Zm1 hin hk
      rw[e]
      by_cases hkn:k=n
      · subst hkn
        rw[if_neg (ho2 hn),if_pos rfl,if_pos (by simp)]
      · rw[if_neg hkn]
        have:(k∈n :: row)=(k∈row):=by
          rw[List.mem_cons]
          exact propext ⟨fun h => by rcases h with h | h; · exact absurd h hkn
                                     · exact h,.inr⟩
        simp only[this]
def busy (row:List Int):Nat:=row.countP fun n=>n != -1
theorem ZBx {l:List Int}{i:Nat}{x v:Int} (h:l[i]? = some x):(l.set i v).sum=l.sum-x+v:=by
  induction l generalizing i with
  | nil=>cases h
  | cons a l ih=>
    cases i with
    | zero=>
      have:a=x:=Option.some.inj h
      subst this
      simp only[List.set_cons_zero,List.sum_cons]
      omega
    | succ i=>
      have h:l[i]? = some x:=h
      simp only[List.set_cons_succ,List.sum_cons,ih h]
      omega
theorem Zmg:∀(row left:List Int),(∀n∈row,n = -1∨isN left n)→(Zak left row).sum=left.sum-(busy row:Int)
  | [],left,_=>by simp[Zak,busy]
  | n :: row,left,hr=>by
    have ih:=Zmg row (dec left n) (fun m hm=>by
      rcases hr m (by simp[hm]) with h | h
      · exact .inl h
      · exact .inr ⟨h.1,by rw[Zpr];exact h.2⟩)
    show(Zak (dec left n) row).sum=_
    rw[ih]
    unfold busy
    by_cases hn:n = -1
    · rw[List.countP_cons_of_neg (by simp[hn])]
      unfold dec
      rw[if_pos hn]
    · have hin:isN left n:=by
        rcases hr n (by simp) with h | h
        · exact absurd h hn
        · exact h
      rw[List.countP_cons_of_pos (by simp[hn])]
      unfold dec
      rw[if_neg hn,ZBx (ZjU hin.1 hin.2)]
      omega
theorem ZgS.row_in {E:List Zy}{left on row:List Int} (f:ZgS E left on row) (c:ZgF E left on):∀n∈row,n = -1∨(isN left n∧0<lf left n∧ZkH E left n):=fun n hn=>by
  obtain⟨i,hi⟩:=List.getElem?_of_mem hn
  have hl:i<on.length:=by rw[← f.len];exact(List.getElem?_eq_some_iff.1 hi).1
  have ho:=List.getElem?_eq_getElem hl
  by_cases h:on[i] = -1
  · rw[h] at ho
    rcases f.new i n ho hi with h1 | ⟨h1,h2,_,h4⟩
    · exact .inl h1
    · exact .inr ⟨h1,h2,h4⟩
  · have:=f.keep i _ ho h
    rw[hi] at this
    have:=Option.some.inj this
    rw[this]
    exact c.run _ (List.getElem_mem hl)
theorem ZgS.nodes {E:List Zy}{left on row:List Int} (f:ZgS E left on row) (c:ZgF E left on):∀n∈row,n = -1∨isN left n:=fun n hn=>by
  rcases f.row_in c n hn with h | h
  · exact .inl h
  · exact .inr h.1
theorem ZsO {E:List Zy}{left on:List Int} (c:ZgF E left on) (n:Int):0≤lf left n∧lf left n≤1000:=by
  unfold lf
  cases h:left[n.toNat]? with
  | none=>simp
  | some x=>exact c.rng x (List.mem_of_getElem? h)
theorem ZgS.tick_lf {E:List Zy}{left on row:List Int} (f:ZgS E left on row) (c:ZgF E left on) {k:Int} (hk:0≤k):lf (Zak left row) k=if k∈row then lf left k-1 else lf left k:=ZlT row left f.one (f.nodes c) k hk
theorem ZgS.tick_le {E:List Zy}{left on row:List Int} (f:ZgS E left on row) (c:ZgF E left on) {k:Int} (hk:0≤k):lf (Zak left row) k≤lf left k:=by
  rw[f.tick_lf c hk]
  split<;>omega
def Zfu (E:List Zy) (n:Nat):Prop:=∀e∈E,(0≤e.src∧e.src.toNat<n)∧(0≤e.dst∧e.dst.toNat<n)
theorem ZgS.free {E:List Zy}{left on row:List Int} (hE:Zfu E left.length) (f:ZgS E left on row) (c:ZgF E left on) {n:Int} (h:ZkH E left n):ZkH E (Zak left row) n:=fun e he hd=>by
  have h1:=h e he hd
  have h0:=(hE e he).1
  rw[f.tick_lf c h0.1]
  split
  · rename_i hm
    rcases f.row_in c _ hm with h2 | ⟨_,h2,_⟩
    · omega
    · omega
  · exact h1
theorem ZgS.next {E:List Zy}{left on row:List Int} (hE:Zfu E left.length) (f:ZgS E left on row) (c:ZgF E left on):ZgF E (Zak left row) (Zax left row):=by
  have hl:=Zet row left
  refine⟨fun x hx=>?_,fun n hn=>?_,fun i j n h1 h2 h3=>?_,fun n hn h0=>?_⟩
  · obtain⟨i,hi⟩:=List.getElem?_of_mem hx
    have e:=ZqZ hi
    rw[← e,f.tick_lf c (by omega)]
    have:=ZsO c (i:Int)
    split
    · rename_i hm
      rcases f.row_in c _ hm with h2 | ⟨_,h2,_⟩
      · omega
      · omega
    · exact this
  · unfold Zax at hn
    obtain⟨k,hk,rfl⟩:=List.mem_map.1 hn
    by_cases h1:k = -1
    · rw[if_pos h1];exact .inl rfl
    · rw[if_neg h1]
      by_cases h2:lf (Zak left row) k=0
      · rw[if_pos h2];exact .inl rfl
      · rw[if_neg h2]
        rcases f.row_in c k hk with h3 | ⟨h3,h4,h5⟩
        · exact absurd h3 h1
        · refine .inr ⟨⟨h3.1,by rw[hl];exact h3.2⟩,?_,f.free hE c h5⟩
          rw[f.tick_lf c h3.1,if_pos hk] at h2 ⊢
          omega
  · have back:∀i:Nat,(Zax left row)[i]? = some n→row[i]? = some n:=fun i h=>by
      unfold Zax at h
      rw[List.getElem?_map] at h
      cases hr:row[i]? with
      | none=>rw[hr] at h;cases h
      | some k=>
        rw[hr] at h
        have h:(if k = -1 then (-1:Int) else if lf (Zak left row) k=0 then -1 else k)=n:=Option.some.inj h
        by_cases h1:k = -1
        · rw[if_pos h1] at h;exact absurd h.symm h3
        · rw[if_neg h1] at h
          by_cases h2:lf (Zak left row) k=0
          · rw[if_pos h2] at h;exact absurd h.symm h3
          · rw[if_neg h2] at h;rw[h]
    exact f.one i j n (back i h1) (back j h2) h3
  · have hn':isN left n:=⟨hn.1,by rw[← hl];exact hn.2⟩
    rw[f.tick_lf c hn.1] at h0
    by_cases hm:n∈row
    · rcases f.row_in c n hm with h2 | ⟨_,_,h2⟩
      · have:=hn.1;omega
      · exact f.free hE c h2
    · rw[if_neg hm] at h0
      exact f.free hE c (c.over n hn' h0)
inductive Sched (E:List Zy) (need:List Int) (m:Nat):List (List Int)→List Int→List Int→Prop
  | nil:Sched E need m [] need (List.replicate m (-1))
  | snoc {t:List (List Int)} {left on row:List Int}:Sched E need m t left on→(∃n,isN left n∧0<lf left n)→ZgS E left on row→Sched E need m (t++[row]) (Zak left row) (Zax left row)
theorem Ztw {E:List Zy}{need:List Int} (m:Nat) (h:∀x∈need,1≤x∧x≤1000):ZgF E need (List.replicate m (-1)):=by
  refine⟨fun x hx=>by have:=h x hx;omega,fun n hn=>.inl (List.mem_replicate.1 hn).2,fun i j n h1 h2 h3=>?_,fun n hn h0=>?_⟩
  · have:=List.mem_of_getElem? h1
    exact absurd (List.mem_replicate.1 this).2 h3
  · have:=h _ (List.mem_of_getElem? (ZjU hn.1 hn.2))
    omega
theorem Sched.len {E:List Zy}{need:List Int}{m:Nat}{t:List (List Int)}{left on:List Int} (s:Sched E need m t left on):left.length=need.length∧on.length=m∧∀row∈t,row.length=m:=by
  induction s with
  | nil=>exact⟨rfl,by simp,fun _ h=>by cases h⟩
  | snoc _ _ f ih=>
    refine⟨by rw[Zet];exact ih.1,by unfold Zax;rw[List.length_map,f.len];exact ih.2.1,fun r hr=>?_⟩
    rcases List.mem_append.1 hr with h | h
    · exact ih.2.2 r h
    · rw[List.mem_singleton] at h
      rw[h,f.len]
      exact ih.2.1
theorem Sched.crew {E:List Zy}{need:List Int}{m:Nat} (h:∀x∈need,1≤x∧x≤1000) (hE:Zfu E need.length) {t:List (List Int)}{left on:List Int} (s:Sched E need m t left on):ZgF E left on:=by
  induction s with
  | nil=>exact Ztw m h
  | snoc s _ f ih=>exact f.next (by rw[s.len.1];exact hE) ih
def Zf3 (t:List (List Int)):Nat:=(t.map busy).sum
theorem Sched.sum {E:List Zy}{need:List Int}{m:Nat} (h:∀x∈need,1≤x∧x≤1000) (hE:Zfu E need.length) {t:List (List Int)}{left on:List Int} (s:Sched E need m t left on):left.sum=need.sum-(Zf3 t:Int):=by
  induction s with
  | nil=>simp[Zf3]
  | snoc s _ f ih=>
    rw[Zmg _ _ (f.nodes (s.crew h hE)),ih]
    unfold Zf3
    rw[List.map_append,List.sum_append]
    simp
    omega
def ZlZ (row:List Int):Nat:=if -1∈row then 1 else 0
def Zlz (t:List (List Int)):Nat:=(t.map ZlZ).sum
theorem ZmP (t:List (List Int)) (row:List Int):Zlz (t++[row])=Zlz t+ZlZ row:=by
  unfold Zlz
  rw[List.map_append,List.sum_append]
  simp
structure ZzP (E:List Zy) (w:List Int) (F:Int→Int) (M:Int):Prop where
  edge:∀e∈E,F e.src+lf w e.dst≤F e.dst
  least:∀n,isN w n→lf w n≤F n
  most:∀n,isN w n→F n≤M
theorem ZxS {m:Nat}{row:List Int} (h:row.length=m):(m:Int)≤busy row+(m:Int)*(ZlZ row:Int)∧(0<busy row→(m:Int)≤busy row+((m:Int)-1)*(ZlZ row:Int)):=by
  have hb:busy row≤row.length:=List.countP_le_length
  unfold ZlZ
  by_cases hi : -1∈row
  · rw[if_pos hi]
    simp only[Int.natCast_one,Int.mul_one]
    constructor
    · omega
    · intro h;omega
  · rw[if_neg hi]
    have:busy row=row.length:=by
      unfold busy
      rw[List.countP_eq_length]
      intro a ha
      have:a ≠ -1:=fun e=>hi (e ▸ ha)
      simpa using this
    simp only[Int.natCast_zero,Int.mul_zero]
    omega
theorem Sched.idle {E:List Zy}{need:List Int}{m:Nat} (h:∀x∈need,1≤x∧x≤1000) (hE:Zfu E need.length) {w:List Int}{F:Int→Int}{M:Int} (W:ZzP E w F M) (hw:w.length=need.length) (hle:∀n,isN need n→lf need n≤lf w n)
    {t:List (List Int)} {left on:List Int} (s:Sched E need m t left on):∀n,isN left n→0<lf left n→ZkH E left n→(Zlz t:Int)≤F n-lf left n:=by
  induction s with
  | nil=>
    intro n hn h0 hf
    have h1:=hle n hn
    have h2:=W.least n ⟨hn.1,by rw[hw];exact hn.2⟩
    simp[Zlz]
    omega
  | @snoc t left on row s hs f ih=>
    intro n hn h0 hf
    have c:=s.crew h hE
    have hl:=s.len.1
    have hE':Zfu E left.length:=by rw[hl];exact hE
    have hn':isN left n:=⟨hn.1,by have:=hn.2;rw[Zet] at this;exact this⟩
    rw[ZmP]
    have tl:=f.tick_lf c hn.1
    by_cases hfr:ZkH E left n
    ·
      have hpos:0<lf left n:=by rw[tl] at h0;split at h0<;>omega
      have i1:=ih n hn' hpos hfr
      by_cases hm:n∈row
      · rw[tl,if_pos hm]
        unfold ZlZ
        split<;>omega
      · have:¬(-1∈row):=fun hi=>f.all hi n ⟨hn',hpos,hm,hfr⟩
        rw[tl,if_neg hm]
        unfold ZlZ
        rw[if_neg this]
        omega
    ·
      have:∃e∈E,e.dst=n∧lf left e.src≠0:=Classical.byContradiction fun hc=>hfr fun e he hd=>Classical.byContradiction fun hx=>hc ⟨e,he,hd,hx⟩
      obtain⟨e,he,hd,hx⟩:=this
      have h0':=hf e he hd
      have hsrc:=(hE' e he).1
      rw[f.tick_lf c hsrc.1] at h0'
      by_cases hm:e.src∈row
      · rw[if_pos hm] at h0'
        rcases f.row_in c _ hm with h2 | ⟨h2,h3,h4⟩
        · omega
        · have i1:=ih e.src h2 h3 h4
          have i2:=W.edge e he
          have i3:=hle n ⟨hn.1,by rw[← hl];exact hn'.2⟩
          rw[hd] at i2
          have i4:lf (Zak left row) n≤lf need n:=by
            have:∀{t:List (List Int)} {left on:List Int},Sched E need m t left on→lf left n≤lf need n:=fun s=>by
              induction s with
              | nil=>exact Int.le_refl _
              | snoc s _ f ih=>exact Int.le_trans (f.tick_le (s.crew h hE) hn.1) ih
            exact this (.snoc s hs f)
          unfold ZlZ
          split<;>omega
      · rw[if_neg hm] at h0'
        exact absurd h0' hx
theorem ZzJ {row:List Int} (h:0<busy row):∃n∈row,n ≠ -1:=by
  unfold busy at h
  obtain⟨n,h1,h2⟩:=List.countP_pos_iff.1 h
  exact⟨n,h1,by simpa using h2⟩
theorem Sched.bound {E:List Zy}{need:List Int}{m:Nat} (h:∀x∈need,1≤x∧x≤1000) (hE:Zfu E need.length) {w:List Int}{F:Int→Int}{M:Int} (W:ZzP E w F M) (hw:w.length=need.length) (hle:∀n,isN need n→lf need n≤lf w n) (hM:0≤M) (hm:1≤m)
    (some_:∀{left on row:List Int},left.length=need.length→on.length=m→(∃n,isN left n∧0<lf left n)→ZgF E left on→ZgS E left on row→0<busy row)
    {t:List (List Int)} {left on:List Int} (s:Sched E need m t left on):(Zlz t:Int)≤M∧(m:Int)*t.length≤(need.sum-left.sum)+((m:Int)-1)*Zlz t:=by
  induction s with
  | nil=>simp[Zlz];omega
  | @snoc t left on row s hs f ih=>
    have c:=s.crew h hE
    have hl:=s.len.1
    have hb:=some_ hl s.len.2.1 hs c f
    have hr:=f.nodes c
    constructor
    · obtain⟨n,hn,hne⟩:=ZzJ hb
      rcases f.row_in c n hn with h1 | ⟨h1,h2,h3⟩
      · exact absurd h1 hne
      · have i1:=s.idle h hE W hw hle n h1 h2 h3
        have i2:=W.most n ⟨h1.1,by rw[hw,← hl];exact h1.2⟩
        rw[ZmP]
        unfold ZlZ
        split<;>omega
    · have b:=(ZxS (m:=m) (by rw[f.len];exact s.len.2.1)).2 hb
      rw[Zmg row left hr,ZmP,List.length_append,List.length_singleton]
      have ih2:=ih.2
      have e1:(m:Int)*((t.length+1:Nat):Int)=(m:Int)*t.length+m:=by rw[Int.natCast_add];simp[Int.mul_add]
      have e2:((m:Int)-1)*((Zlz t+ZlZ row:Nat):Int)=((m:Int)-1)*Zlz t+((m:Int)-1)*ZlZ row:=by rw[Int.natCast_add,Int.mul_add]
      rw[e1,e2]
      omega
end Go.Proofs.YtgcfmiajkbbmeaaGreatDoor
