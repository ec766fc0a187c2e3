/- TeamSched: part 3 of 5 of the proof. -/
import Derived.Test.YtgcfmiajkbbmeaaGreatZTeamSchedb
import Derived.Test.YtgcfmiajkbbmeaaGreatProg
import Derived.WalkKit
import Derived.Shelf.Sort.Plain
import Derived.Shelf.Slices.In.SortNone
import Derived.KernelRfl
import Derived.ChangeArms
import Derived.Deep.Slices
import Derived.ChangeOld
import Derived.WideShapes
import Derived.FnData
import Derived.MakeChecks
import Derived.LaidMore
import Derived.OpenShut
set_option maxRecDepth 100000
set_option maxHeartbeats 40000000
set_option linter.unusedVariables false
set_option linter.unusedSimpArgs false
namespace Go.Proofs.YtgcfmiajkbbmeaaGreatE
open Go
open Go.IntKind (u64 i64 u32 i32 u8)
theorem Zqr:∀(n:Nat) (H:Zd) (b i:Nat) (blk:Blk),(ZwH H b n)[i]? = some blk→blk ≠ .dead→H[i]? = some blk∧¬(b≤i∧i<b+n)
  | 0,H,b,i,blk,h,_=>⟨h,by omega⟩
  | n+1,H,b,i,blk,h,hd=>by
    obtain⟨h1,h2⟩:=Zqr n _ _ i blk h hd
    rw[Z9,List.getElem?_set] at h1
    by_cases hbi:b=i
    · rw[if_pos hbi] at h1
      split at h1
      · cases h1;exact absurd rfl hd
      · cases h1
    · rw[if_neg hbi] at h1
      exact⟨h1,by omega⟩
theorem Zmz (pos:List (Nat×Nat)):∀(mask:List Nat) (H:Zd) (i:Nat) (blk:Blk),(Ze7 H pos mask)[i]? = some blk→blk ≠ .dead→H[i]? = some blk∧∀m∈mask,∀b n,pos[m]? = some (b,n)→¬(b≤i∧i<b+n)
  | [],H,i,blk,h,_=>⟨h,by simp⟩
  | m :: mask,H,i,blk,h,hd=>by
    simp only[Ze7] at h
    rw[ZB] at h
    cases hp:pos[m]? with
    | none=>
      rw[hp] at h
      obtain⟨h1,h2⟩:=Zmz pos mask H i blk h hd
      refine⟨h1,fun k hk b n hb=>?_⟩
      rcases List.mem_cons.1 hk with rfl | hk
      · rw[hp] at hb;cases hb
      · exact h2 k hk b n hb
    | some q=>
      obtain⟨b0,n0⟩:=q
      rw[hp] at h
      obtain⟨h1,h2⟩:=Zmz pos mask _ i blk h hd
      obtain⟨h3,h4⟩:=Zqr n0 H b0 i blk h1 hd
      refine⟨h3,fun k hk b n hb=>?_⟩
      rcases List.mem_cons.1 hk with rfl | hk
      · rw[hp] at hb;cases hb;exact h4
      · exact h2 k hk b n hb
theorem Blk.like_symm {a b:Blk} (h:a.like b):b.like a:=by
  cases a<;>cases b<;>simp_all [Blk.like]
theorem Zru {Γ:Ctx}{cf:Z4}{e:Env}{nid:Nat}{H:Zd}{op:O}{v:V}{up:List (Nat×Blk)}{nw:List Blk} (hc:Zvy op=true∨ZuG op=true) (h:opE Γ cf e nid H op=some (v,up,nw)):nw=[]:=by
  have key:∀(x:Option V),(match x with | some v=>ZaR v | none=>none)=some (v,up,nw)→nw=[]:=fun x h=>by
    cases x with
    | none=>cases h
    | some y=>exact(ZO h).2.2
  have keyD:∀(x:Option D),(match x with | some r=>ZaR (.d r) | none=>none)=some (v,up,nw)→nw=[]:=fun x h=>by
    cases x with
    | none=>cases h
    | some y=>exact(ZO h).2.2
  cases op<;>first | (rcases hc with hc | hc<;>cases hc;done) | skip
  case nilckm tab x=>
    simp only[opE] at h
    unfold Znx at h
    split at h
    · split at h
      · rename_i f _ _ _ _ _ _
        cases hb:Nat.beq f 2000000 with
        | true=>rw[hb] at h;exact(ZO h).2.2
        | false=>rw[hb] at h;cases h
      · cases h
    · cases h
  case mov x=>exact(ZO h).2.2
  case mkfn f caps=>exact(ZO h).2.2
  case bslice sz z len ps=>
    cases len with
    | zero=>simp only[opE] at h;split at h<;>first | exact(ZO h).2.2 | (cases h;done) | skip
    | succ n=>rcases hc with hc | hc<;>cases hc
  case build z ps=>simp only[opE] at h;split at h<;>first | exact(ZO h).2.2 | cases h
  case pick c a b=>simp only[opE] at h;split at h<;>first | exact(ZO h).2.2 | cases h
  case conv k x=>simp only[opE] at h;split at h<;>first | exact(ZO h).2.2 | cases h
  case eqv ks neg x y=>
    simp only[opE] at h
    split at h
    · split at h
      · split at h
        · exact(ZO h).2.2
        · cases h
      · cases h
    · cases h
  case field off n ag x=>
    simp only[opE] at h
    split at h
    · exact key _ h
    · exact key _ h
    · cases h
  case extract x i=>
    simp only[opE] at h
    split at h
    · exact key _ h
    · split at h<;>first | exact(ZO h).2.2 | cases h
    · cases h
  all_goals (simp only[opE] at h;first | exact key _ h | exact keyD _ h)
theorem Zvw {Γ:Ctx}{cf:Z4}{e:Env}{nid:Nat}{H:Zd}{op:O}{v:V}{up:List (Nat×Blk)}{nw:List Blk} (hs:(∃n x y,op = .store n x y∨∃k,op = .storek n x y k)∨∃sz x y,op = .append sz x y) (h:opE Γ cf e nid H op=some (v,up,nw)) (hu:ZnM 3 up nw=true) :
    nw=[]∧(up=[]∨∃b blk old,up=[(b,blk)]∧H[b]? = some old∧old.like blk):=by
  simp only[ZnM,Bool.and_eq_true,List.isEmpty_iff] at hu
  obtain⟨hu,rfl⟩:=hu
  refine⟨rfl,?_⟩
  rcases hs with⟨n,x,y,hs⟩ | ⟨sz,x,y,rfl⟩
  · have h:ZiJ H n (x.val e) (y.val e)=some (v,up,[]):=by rcases hs with rfl | ⟨k,rfl⟩<;>exact h
    unfold ZiJ at h
    split at h
    · rename_i b o _
      split at h
      · rename_i cs hb
        cases hc:(Nat.beq (y.val e).cells.length n&&Nat.ble (o+n) cs.length&&(y.val e).okb&&Zqw (y.val e).cells) with
        | false=>rw[hc] at h;cases h
        | true=>
          rw[hc] at h
          simp only[cond_true,Option.some.injEq,Prod.mk.injEq] at h
          obtain⟨rfl,rfl,_⟩:=h
          exact .inr ⟨_,_,.cells cs,rfl,by rw[← ZB];exact hb,trivial⟩
      · cases h
    · rename_i b sz i k _
      split at h
      · rename_i sz' xs hb
        cases hq:Nat.beq sz sz' with
        | false=>rw[hq] at h;cases h
        | true=>
          obtain rfl:=Nat.eq_of_beq_eq_true hq
          rw[hq] at h
          simp only[cond_true] at h
          split at h
          · rename_i x0 y0 ks h1 h2
            cases he:Zgi ks b with
            | true=>rw[he] at h;cases h
            | false=>
              rw[he] at h
              simp only[cond_false] at h
              cases hc:(Nat.beq y0.cells.length n&&Nat.ble (k+n) x0.cells.length&&(V.d y0).okb&&(x0.isAgg || !y0.isAgg)) with
              | false=>rw[hc] at h;cases h
              | true=>
                rw[hc] at h
                simp only[cond_true,Option.some.injEq,Prod.mk.injEq] at h
                obtain⟨rfl,rfl,_⟩:=h
                cases ks with
                | nil=>exact .inr ⟨_,_,.arr sz xs,rfl,by rw[← ZB];exact hb,rfl,by rw[Z9];simp⟩
                | cons a r=>simp[ZsD] at hu
          · cases h
      · cases h
    · cases h
  · simp only[opE] at h
    unfold ZfE at h
    split at h
    · cases h
    · rename_i ys hy
      cases hz:Zhy sz ys 0 with
      | false=>rw[hz] at h;cases h
      | true=>
        rw[hz] at h
        simp only[cond_true] at h
        split at h
        · cases hl:Nat.ble ys.length lim with
          | false=>rw[hl] at h;cases h
          | true=>rw[hl] at h;cases h
        · rename_i b sz' _
          split at h
          · rename_i sz'' xs hb
            cases hc:(Nat.beq sz sz'&&Nat.beq sz sz'') with
            | false=>rw[hc] at h;cases h
            | true=>
              rw[hc] at h
              simp only[cond_true] at h
              cases hl:Nat.ble (xs.length+ys.length) lim with
              | false=>rw[hl] at h;cases h
              | true=>rw[hl] at h;cases h
          · cases h
        · rename_i b sz' o len _
          split at h
          · rename_i sz'' xs hb
            cases hc:(Nat.beq sz sz'&&Nat.beq sz sz''&&Nat.ble (o+len+ys.length) xs.length) with
            | false=>rw[hc] at h;cases h
            | true=>
              rw[hc] at h
              simp only[cond_true,Option.some.injEq,Prod.mk.injEq] at h
              obtain⟨rfl,rfl,_⟩:=h
              simp only[Bool.and_eq_true,Nat.ble_eq] at hc
              obtain⟨⟨c1,c2⟩,c3⟩:=hc
              refine .inr ⟨_,_,.arr sz'' xs,rfl,by rw[← ZB];exact hb,(Nat.eq_of_beq_eq_true c2).symm,?_⟩
              simp only[List.length_append,List.length_take,List.length_drop]
              omega
          · cases h
        · cases h
theorem ZlY {e:Env}{H:Zd}{o:Op1}{up:List (Nat×Blk)}{nw:List Blk} (h:ZnH e H o up nw=true):ZnM o.eff up nw=true∧ZB1 e H up o.op=true:=by
  unfold ZnH at h
  rwa [Bool.and_eq_true] at h
def ZaW.len (t:ZaW) (j:Nat):Nat:=(t.HH j).length
theorem Zmh {p:Op1}:(ZX p≤2↔(p.eff=0∨p.eff=1))∧(ZX p=3↔p.eff=3):=by
  unfold ZX
  split
  · rename_i h
    rw[h]
    cases Zvy p.op<;>cases ZuG p.op<;>simp
  · rename_i h;rw[h];simp
  · rename_i h;rw[h];simp
  · rename_i h0 h1 h3
    constructor
    · simp;exact⟨h0,h1⟩
    · simp;exact h3
theorem ZrW {p:Op1} (h:p.eff=1):ZX p=1:=by unfold ZX;simp only[h]
theorem Zp4 {p:Op1} (h:ZX p≤1):(ZX p=0∧Zvy p.op=true)∨(ZX p=1∧ZuG p.op=true∧p.eff≠1)∨(ZX p=1∧p.eff=1):=by
  rcases(Zmh (p:=p)).1.1 (by omega) with h0 | h0
  · unfold ZX at h ⊢
    rw[h0] at h ⊢
    cases h1:Zvy p.op<;>cases h2:ZuG p.op<;>simp_all
  · exact .inr (.inr ⟨ZrW h0,h0⟩)
def Zx9:V→Option Nat
  | .ptr b _=>some b
  | .eptr b _ _ _=>some b
  | _=>none
theorem ZjM {H H':Zd}{n:Nat}{ag:Bool}{x v:V} (h:ZbY H n ag x=some v) (hs:∀b,Zx9 x=some b→∀blk,H[b]? = some blk→blk ≠ .dead→H'[b]? = some blk):ZbY H' n ag x=some v:=by
  cases x<;>try exact h
  · rename_i d
    cases d<;>exact h
  · rename_i b o
    unfold ZbY at h ⊢
    simp only[ZB] at h ⊢
    cases hb:H[b]? with
    | none=>rw[hb] at h;cases h
    | some blk=>
      rw[hb] at h
      cases blk<;>try (cases h;done)
      rw[hs b rfl _ hb (by simp)];exact h
  · rename_i b sz i k
    unfold ZbY at h ⊢
    simp only[ZB] at h ⊢
    cases hb:H[b]? with
    | none=>rw[hb] at h;cases h
    | some blk=>
      rw[hb] at h
      cases blk<;>try (cases h;done)
      rw[hs b rfl _ hb (by simp)];exact h
theorem ZuR {H:Zd}{n:Nat}{ag:Bool}{x v:V}{b:Nat} (h:ZbY H n ag x=some v) (hx:Zx9 x=some b):∃blk,H[b]? = some blk∧blk ≠ .dead:=by
  cases x<;>try (cases hx;done)
  · rename_i b' o
    cases hx
    unfold ZbY at h
    simp only[ZB] at h
    cases hb:H[b]? with
    | none=>rw[hb] at h;cases h
    | some blk=>
      rw[hb] at h
      cases blk<;>try (cases h;done)
      exact⟨_,rfl,by simp⟩
  · rename_i b' sz i k
    cases hx
    unfold ZbY at h
    simp only[ZB] at h
    cases hb:H[b]? with
    | none=>rw[hb] at h;cases h
    | some blk=>
      rw[hb] at h
      cases blk<;>try (cases h;done)
      exact⟨_,rfl,by simp⟩
theorem ZrB:∀{up:List (Nat×Blk)}{H:Zd}{b:Nat},ZmS up b=false→(Zbd H up)[b]? = H[b]?
  | [],_,_,_=>rfl
  | (a,blk) :: r,H,b,h=>by
    simp only[ZmS] at h
    cases hb:Nat.beq a b with
    | true=>rw[hb] at h;cases h
    | false=>
      rw[hb] at h
      show(Zbd (ZcD H a blk) r)[b]? = _
      rw[ZrB (up:=r) h,Z9,List.getElem?_set_ne (fun e=>by subst e;rw[Nat.beq_refl] at hb;cases hb)]
theorem ZnU {e:Env}{up:List (Nat×Blk)}{s:Nat}:∀{l:List Opd},Zmo e up l=true→Zsq l s=true→∀b,Zx9 (e s)=some b→ZmS up b=false
  | [],_,hs=>by cases hs
  | .c v :: l,h,hs=>by
    simp only[Zmo,Bool.and_eq_true] at h
    exact ZnU (l:=l) h.2 hs
  | .t i :: l,h,hs=>by
    simp only[Zmo,Bool.and_eq_true] at h
    simp only[Zsq,Bool.or_eq_true] at hs
    rcases hs with hs | hs
    · obtain rfl:=Nat.eq_of_beq_eq_true hs
      have h1:=h.1
      intro b hb
      change (match e i with
        | .ptr b _=>!(ZmS up b)
        | .eptr b _ _ _=>!(ZmS up b)
        | .d _=>true
        | _=>false)=true at h1
      cases hx:e i<;>rw[hx] at h1 hb<;>simp only[Zx9,Option.some.injEq] at hb<;>first | (subst hb;simpa using h1) | cases hb
    · exact ZnU (l:=l) h.2 hs
theorem ZsH {e:Env}{H H':Zd}{s:Nat}:∀{l:List Opd},Zu6 e H H' l=true→Zsq l s=true→∃i,ZbY H 1 false (e s)=some (.mp i)∧ZbY H' 1 false (e s)=some (.mp i)
  | [],_,hs=>by cases hs
  | .c v :: l,h,hs=>by
    simp only[Zu6,Bool.and_eq_true] at h
    exact ZsH (l:=l) h.2 hs
  | .t i :: l,h,hs=>by
    simp only[Zu6,Bool.and_eq_true] at h
    simp only[Zsq,Bool.or_eq_true] at hs
    rcases hs with hs | hs
    · obtain rfl:=Nat.eq_of_beq_eq_true hs
      have h1:=h.1
      change (match e i with
        | .ptr b o=>(match ZbY H 1 false (.ptr b o),ZbY H' 1 false (.ptr b o) with | some (.mp i),some (.mp j)=>Nat.beq i j | _,_=>false)
        | _=>false)=true at h1
      split at h1
      · rename_i b o hx
        rw[hx]
        split at h1
        · rename_i i1 j1 e1 e2
          rw[e1,e2,Nat.eq_of_beq_eq_true h1]
          exact⟨_,rfl,rfl⟩
        · cases h1
      · cases h1
    · exact ZsH (l:=l) h.2 hs
section
variable {P:Program} {G:Zl} {N:Nat} {Γ:Ctx} {cf:Z4} {t:ZaW} {l:List Op1} {e:Env} {H:Zd} {e':Env} {H':Zd} {os:Array Oper} {B:Nat→Nat→Prop} {D:Nat→Bool}
theorem ZaW.OK.len_succ (ht:t.OK Γ cf [] l e H e' H') {j:Nat} (hj:j<l.length):t.len (j+1)=t.len j+(t.NW j).length:=by
  unfold ZaW.len
  rw[ht.h j _ (List.getElem?_eq_getElem hj),List.length_append,Zjq]
theorem ZaW.OK.len_mono (ht:t.OK Γ cf [] l e H e' H') {a:Nat}:∀(b:Nat),a≤b→b≤l.length→t.len a≤t.len b:=by
  intro b
  induction b with
  | zero => intro h _; have : a = 0 := by omega
            subst this;exact Nat.le_refl _
  | succ b ih=>
    intro h hb
    by_cases hab:a=b+1
    · subst hab;exact Nat.le_refl _
    · have h1:=ih (by omega) (by omega)
      have h2:=ht.len_succ (j:=b) (by omega)
      omega
theorem ZaW.OK.whose (ht:t.OK Γ cf [] l e H e' H') {a i:Nat}:∀(b:Nat),a≤b→b≤l.length→t.len a≤i→i<t.len b→∃j,a≤j∧j<b∧t.len j≤i∧i<t.len (j+1):=by
  intro b
  induction b with
  | zero => intro h _ h1 h2; have : a = 0 := by omega
            subst this;omega
  | succ b ih=>
    intro h hb h1 h2
    by_cases hab:a=b+1
    · subst hab;omega
    · by_cases hi:i<t.len b
      · obtain⟨j,g1,g2,g3⟩:=ih (by omega) (by omega) h1 hi
        exact⟨j,g1,by omega,g3⟩
      · exact⟨b,by omega,by omega,by omega,h2⟩
theorem ZaW.OK.one (ht:t.OK Γ cf [] l e H e' H') {i j k:Nat} (hj:j<l.length) (hk:k<l.length) (h1:t.len j≤i∧i<t.len (j+1)) (h2:t.len k≤i∧i<t.len (k+1)):j=k:=by
  rcases Nat.lt_trichotomy j k with h | h | h
  · have:=ht.len_mono (a:=j+1) k (by omega) (by omega);omega
  · exact h
  · have:=ht.len_mono (a:=k+1) j (by omega) (by omega);omega
theorem ZaW.OK.noUp (ht:t.OK Γ cf [] l e H e' H') {j:Nat}{p:Op1} (hp:l[j]? = some p) (hc:ZX p≤2):t.UP j=[]:=by
  cases hw:t.W j with
  | false=>exact(ht.n j p hp hw).2.1
  | true=>
    have:=(ZlY (ht.y j p hp hw).2).1
    rcases(Zmh (p:=p)).1.1 hc with h | h
    · rw[h] at this;simpa [ZnM] using this
    · rw[h] at this
      simp only[ZnM,Bool.and_eq_true,List.isEmpty_iff] at this
      exact this.1
theorem ZaW.OK.noNew (ht:t.OK Γ cf [] l e H e' H') {j:Nat}{p:Op1} (hp:l[j]? = some p) (hc:ZX p≤1):t.NW j=[]:=by
  cases hw:t.W j with
  | false=>exact(ht.n j p hp hw).2.2
  | true=>
    rcases Zp4 hc with h | h | h
    · exact Zru (.inl h.2) (ht.y j p hp hw).1
    · exact Zru (.inr h.2.1) (ht.y j p hp hw).1
    · have:=(ZlY (ht.y j p hp hw).2).1
      rw[h.2] at this
      simp only[ZnM,Bool.and_eq_true,List.isEmpty_iff] at this
      exact this.2
theorem ZaW.OK.new2 (ht:t.OK Γ cf [] l e H e' H') {i j:Nat}{p:Op1} (hp:l[j]? = some p) (h:t.len j≤i∧i<t.len (j+1)):2≤ZX p:=by
  have hj:=(List.getElem?_eq_some_iff.1 hp).1
  rcases Nat.lt_or_ge (ZX p) 2 with h' | h'
  · have:=ht.len_succ hj
    rw[ht.noNew hp (by omega)] at this
    simp at this
    omega
  · exact h'
theorem ZaW.OK.stay1 (ht:t.OK Γ cf [] l e H e' H') {j:Nat}{p:Op1} (hp:l[j]? = some p) (hc:ZX p≤2):t.HH (j+1)=t.HH j++t.NW j:=by
  rw[ht.h j p hp,ht.noUp hp hc];rfl
theorem ZaW.OK.stay (ht:t.OK Γ cf [] l e H e' H') {a:Nat}:∀(b:Nat),a≤b→b≤l.length→(∀m p,a≤m→m<b→l[m]? = some p→ZX p≤2)→∀i,i<t.len a→(t.HH b)[i]? = (t.HH a)[i]?:=by
  intro b
  induction b with
  | zero => intro h _ _ i _; have : a = 0 := by omega
            subst this;rfl
  | succ b ih=>
    intro h hb hc i hi
    by_cases hab:a=b+1
    · subst hab;rfl
    · have hp:l[b]? = some (l[b]'(by omega)):=List.getElem?_eq_getElem (by omega)
      have hm:=ht.len_mono (a:=a) b (by omega) (by omega)
      rw[ht.stay1 hp (hc b _ (by omega) (by omega) hp),List.getElem?_append_left (by unfold ZaW.len at *;omega)]
      exact ih (by omega) (by omega) (fun m p h1 h2=>hc m p h1 (by omega)) i hi
theorem ZaW.OK.like1 (ht:t.OK Γ cf [] l e H e' H') (hk:Chk P G N os l B) {j:Nat}{p:Op1} (hp:l[j]? = some p) (hc:ZX p≤3) {i:Nat} (hi:i<t.len j):∃x y,(t.HH j)[i]? = some x∧(t.HH (j+1))[i]? = some y∧(x=y∨x.like y):=by
  have same:t.UP j=[]→∃x y,(t.HH j)[i]? = some x∧(t.HH (j+1))[i]? = some y∧(x=y∨x.like y):=fun hu=>by
    refine⟨_,_,List.getElem?_eq_getElem hi,?_,.inl rfl⟩
    rw[ht.h j p hp,hu]
    show(t.HH j++t.NW j)[i]? = _
    rw[List.getElem?_append_left hi]
    exact List.getElem?_eq_getElem hi
  rcases Nat.lt_or_ge (ZX p) 3 with h | h
  · exact same (ht.noUp hp (by omega))
  · have he:=(Zmh (p:=p)).2.1 (by omega)
    cases hw:t.W j with
    | false=>exact same (ht.n j p hp hw).2.1
    | true=>
      obtain⟨y1,y2⟩:=ht.y j p hp hw
      rw[hk.mask j p hp h] at y1
      have y2:=(ZlY y2).1
      rw[he] at y2
      have hs:(∃n x y,p.op = .store n x y∨∃k,p.op = .storek n x y k)∨∃sz x y,p.op = .append sz x y:=by
        have:=hk.eff3 j p hp
        unfold Zs2 at this
        rw[he] at this
        cases hop:p.op<;>rw[hop] at this<;>first | (cases this;done) | exact .inl ⟨_,_,_,.inl rfl⟩ | exact .inl ⟨_,_,_,.inr ⟨_,rfl⟩⟩ | exact .inr ⟨_,_,_,rfl⟩
      obtain⟨f1,f2⟩:=Zvw hs y1 y2
      rcases f2 with f2 | ⟨b,blk,old,f2,f3,f4⟩
      · exact same f2
      · by_cases hbi:b=i
        · subst hbi
          refine⟨old,blk,f3,?_,.inr f4⟩
          rw[ht.h j p hp,f1,f2]
          simp only[Zbd,List.append_nil,Z9]
          rw[List.getElem?_set,if_pos rfl,if_pos (show b<(t.HH j).length from hi)]
        · refine⟨_,_,List.getElem?_eq_getElem hi,?_,.inl rfl⟩
          rw[ht.h j p hp,f1,f2]
          simp only[Zbd,List.append_nil,Z9]
          rw[List.getElem?_set,if_neg hbi]
          exact List.getElem?_eq_getElem hi
theorem ZaW.OK.like (ht:t.OK Γ cf [] l e H e' H') (hk:Chk P G N os l B) {a:Nat}:∀(b:Nat),a≤b→b≤l.length→(∀m p,a≤m→m<b→l[m]? = some p→ZX p≤3)→∀i,i<t.len a→∃x y,(t.HH a)[i]? = some x∧(t.HH b)[i]? = some y∧(x=y∨x.like y):=by
  intro b
  induction b with
  | zero => intro h _ _ i hi; have : a = 0 := by omega
            subst this;exact⟨_,_,List.getElem?_eq_getElem hi,List.getElem?_eq_getElem hi,.inl rfl⟩
  | succ b ih=>
    intro h hb hc i hi
    by_cases hab:a=b+1
    · subst hab;exact⟨_,_,List.getElem?_eq_getElem hi,List.getElem?_eq_getElem hi,.inl rfl⟩
    · have hp:l[b]? = some (l[b]'(by omega)):=List.getElem?_eq_getElem (by omega)
      have hm:=ht.len_mono (a:=a) b (by omega) (by omega)
      obtain⟨x,y,h1,h2,h3⟩:=ih (by omega) (by omega) (fun m p h1 h2=>hc m p h1 (by omega)) i hi
      obtain⟨y',z,g1,g2,g3⟩:=ht.like1 hk hp (hc b _ (by omega) (by omega) hp) (i:=i) (by omega)
      rw[h2] at g1
      cases g1
      refine⟨x,z,h1,g2,?_⟩
      rcases h3 with rfl | h3
      · exact g3
      · rcases g3 with rfl | g3
        · exact .inr h3
        · exact .inr (Blk.like_trans h3 g3)
theorem ZaW.OK.env0 (ht:t.OK Γ cf [] l e H e' H') {x:Nat}:∀(j:Nat),j≤l.length→(∀i p,i<j→l[i]? = some p→p.dst≠some x)→t.E j x=e x:=by
  intro j
  induction j with
  | zero=>intro _ _;rw[ht.e0]
  | succ j ih=>
    intro hj hn
    have hp:l[j]? = some (l[j]'(by omega)):=List.getElem?_eq_getElem (by omega)
    rw[ht.e j _ hp]
    have h1:=hn j _ (by omega) hp
    have h2:=ih (by omega) (fun i p hi=>hn i p (by omega))
    cases hd:(l[j]'(by omega)).dst with
    | none=>exact h2
    | some d=>
      rw[hd] at h1
      show(bif Nat.beq d x then t.VV j else t.E j x)=e x
      have:Nat.beq d x=false:=by
        cases hb:Nat.beq d x with
        | false=>rfl
        | true=>exact absurd (congrArg some (Nat.eq_of_beq_eq_true hb)) h1
      rw[this];exact h2
theorem ZaW.OK.envd (ht:t.OK Γ cf [] l e H e' H') (hk:Chk P G N os l B) {i x:Nat}{p:Op1} (hp:l[i]? = some p) (hd:p.dst=some x):∀(j:Nat),i<j→j≤l.length→t.E j x=t.VV i:=by
  intro j
  induction j with
  | zero=>intro h;omega
  | succ j ih=>
    intro hij hj
    have hq:l[j]? = some (l[j]'(by omega)):=List.getElem?_eq_getElem (by omega)
    rw[ht.e j _ hq]
    by_cases h:i=j
    · subst h
      rw[hp] at hq
      cases hq
      rw[hd]
      show(bif Nat.beq x x then t.VV i else _)=_
      rw[Nat.beq_refl];rfl
    · have h2:=ih (by omega) (by omega)
      cases hd':(l[j]'(by omega)).dst with
      | none=>exact h2
      | some d=>
        show(bif Nat.beq d x then t.VV j else t.E j x)=_
        have:Nat.beq d x=false:=by
          cases hb:Nat.beq d x with
          | false=>rfl
          | true=>
            obtain rfl:=Nat.eq_of_beq_eq_true hb
            exact absurd (hk.dst i j p _ d hp hq hd hd') h
        rw[this];exact h2
theorem ZaW.OK.envs (ht:t.OK Γ cf [] l e H e' H') (hk:Chk P G N os l B) {j x:Nat}{q:Op1} (hq:l[j]? = some q) (he:q.eff=1) (hx:x∈Zbx q):∀(k:Nat),j≤k→k≤l.length→t.E k x=t.E j x:=by
  intro k
  induction k with
  | zero => intro h _; have : j = 0 := by omega
            subst this;rfl
  | succ k ih=>
    intro hjk hk'
    by_cases h:j=k+1
    · subst h;rfl
    · have hp:l[k]? = some (l[k]'(by omega)):=List.getElem?_eq_getElem (by omega)
      have h2:=ih (by omega) (by omega)
      rw[ht.e k _ hp]
      cases hd:(l[k]'(by omega)).dst with
      | none=>exact h2
      | some d=>
        show(bif Nat.beq d x then t.VV k else t.E k x)=_
        have:Nat.beq d x=false:=by
          cases hb:Nat.beq d x with
          | false=>rfl
          | true=>
            obtain rfl:=Nat.eq_of_beq_eq_true hb
            exact absurd hx (hk.stay k j _ q d hp hq he (by omega) hd)
        rw[this];exact h2
theorem Chk.lt (hk:Chk P G N os l B):∀(j i:Nat),j<l.length→B i j→i<j:=by
  intro j
  induction j using Nat.strongRecOn with
  | ind j ih=>
    intro i hj hb
    obtain⟨k,h1,h2⟩:=hk.bef j _ i (Array.getElem?_eq_getElem (by rw[hk.len];exact hj)) hb
    have h3:=hk.pre j _ (Array.getElem?_eq_getElem (by rw[hk.len];exact hj)) k h1
    rcases h2 with rfl | ⟨h4,h5⟩
    · exact h3
    · have:=ih k h4 i (by omega) h5;omega
def Zno (os:Array Oper) (D:Nat→Bool):Prop:=∀(j:Nat) o,os[j]? = some o→D j=true→∀i∈Zmb o,D i=true
theorem Chk.down (hk:Chk P G N os l B) (hD:Zno os D):∀(j i:Nat) o,os[j]? = some o→(∀k∈Zmb o,D k=true)→B i j→D i=true:=by
  intro j
  induction j using Nat.strongRecOn with
  | ind j ih=>
    intro i o ho hp hb
    obtain⟨k,h1,h2⟩:=hk.bef j o i ho hb
    rcases h2 with rfl | ⟨h4,h5⟩
    · exact hp _ h1
    · have hk':k<os.size:=by
        have:=(Array.getElem?_eq_some_iff.1 ho).1;omega
      exact ih k h4 i _ (Array.getElem?_eq_getElem hk') (fun m hm=>hD k _ (Array.getElem?_eq_getElem hk') (hp k h1) m hm) h5
theorem Chk.downD (hk:Chk P G N os l B) (hD:Zno os D) {i j:Nat} (hj:j<l.length) (h:D j=true) (hb:B i j):D i=true:=
  hk.down hD j i _ (Array.getElem?_eq_getElem (by rw[hk.len];exact hj)) (hD j _ (Array.getElem?_eq_getElem (by rw[hk.len];exact hj)) h) hb
theorem Chk.order (hk:Chk P G N os l B) {i j:Nat}{p q:Op1} (hp:l[i]? = some p) (hq:l[j]? = some q) (hc:3≤ZX p) (hc2:2≤ZX q):i=j∨(i<j∧B i j)∨(j<i∧B j i):=by
  have hi:=(List.getElem?_eq_some_iff.1 hp).1
  have hj:=(List.getElem?_eq_some_iff.1 hq).1
  rcases hk.pair i j p q hp hq hc with h | h | h | h | h | h
  · exact .inl h
  · exact .inr (.inl ⟨hk.lt j i hj h,h⟩)
  · exact .inr (.inr ⟨hk.lt i j hi h,h⟩)
  · omega
  · omega
  · have:=ZrW h.1;omega
def hid (t:ZaW) (D:Nat→Bool) (K i:Nat):Bool:=(List.range K).any fun j=>!(D j)&&(decide (t.len j≤i)&&decide (i<t.len (j+1)))
def Zhh (t:ZaW) (D:Nat→Bool) (K:Nat):Zd:=(t.HH K).mapIdx fun i b=>bif hid t D K i then .dead else b
theorem ZqG {K i:Nat}:hid t D K i=true↔∃j,j<K∧D j=false∧t.len j≤i∧i<t.len (j+1):=by
  unfold hid
  simp[List.any_eq_true]
theorem Ziu {K i:Nat}:hid t D K i=false↔∀j,j<K→t.len j≤i→i<t.len (j+1)→D j=true:=by
  rw[← Bool.not_eq_true,ZqG]
  constructor
  · intro h j h1 h2 h3
    cases hd:D j with
    | true=>rfl
    | false=>exact absurd ⟨j,h1,hd,h2,h3⟩ h
  · rintro h ⟨j,h1,h2,h3,h4⟩
    rw[h j h1 h3 h4] at h2;cases h2
theorem ZjY {K i:Nat}:(Zhh t D K)[i]? = ((t.HH K)[i]?).map fun b=>bif hid t D K i then .dead else b:=by
  unfold Zhh
  rw[List.getElem?_mapIdx]
theorem Zs8 {K i:Nat}{blk:Blk} (h:(Zhh t D K)[i]? = some blk) (hd:blk ≠ .dead):(t.HH K)[i]? = some blk∧hid t D K i=false:=by
  rw[ZjY] at h
  cases hb:(t.HH K)[i]? with
  | none=>rw[hb] at h;cases h
  | some b=>
    rw[hb] at h
    simp only[Option.map_some,Option.some.injEq] at h
    cases hh:hid t D K i with
    | true=>rw[hh] at h;exact absurd h.symm hd
    | false=>rw[hh] at h;exact⟨by rw[← h];rfl,rfl⟩
theorem Zfq {K i:Nat} (h:hid t D K i=false):(Zhh t D K)[i]? = (t.HH K)[i]?:=by
  rw[ZjY,h]
  cases (t.HH K)[i]?<;>rfl
theorem Zxt (l:List Op1) (a:Nat) (ha:a≤l.length):∃K,a≤K∧K≤l.length∧(∀m p,a≤m→m<K→l[m]? = some p→ZX p≤2)∧(K<l.length→∃p,l[K]? = some p∧3≤ZX p):=by
  have key:∀n a,l.length-a=n→a≤l.length→∃K,a≤K∧K≤l.length∧(∀m p,a≤m→m<K→l[m]? = some p→ZX p≤2)∧(K<l.length→∃p,l[K]? = some p∧3≤ZX p):=by
    intro n
    induction n with
    | zero=>intro a h1 h2;exact⟨a,Nat.le_refl _,h2,fun m p h3 h4=>by omega,fun h=>by omega⟩
    | succ n ih=>
      intro a h1 h2
      have hp:l[a]? = some (l[a]'(by omega)):=List.getElem?_eq_getElem (by omega)
      rcases Nat.lt_or_ge (ZX (l[a]'(by omega))) 3 with h | h
      · obtain⟨K,g1,g2,g3,g4⟩:=ih (a+1) (by omega) (by omega)
        refine⟨K,by omega,g2,fun m p h3 h4 h5=>?_,g4⟩
        by_cases hm:m=a
        · subst hm;rw[hp] at h5;cases h5;omega
        · exact g3 m p (by omega) h4 h5
      · exact⟨a,Nat.le_refl _,h2,fun m p h3 h4=>by omega,fun _=>⟨_,hp,h⟩⟩
  exact key _ a rfl ha
end
end Go.Proofs.YtgcfmiajkbbmeaaGreatE
namespace Go.Proofs.YtgcfmiajkbbmeaaGreatE
open Go
open Go.IntKind (u64 i64 u32 i32 u8)
theorem Zr9 {e e':Env}:∀(g:Option (Nat×Bool)),(∀s b,g=some (s,b)→e s=e' s)→Zcr e g=Zcr e' g
 | none,_=>rfl
 | some (s,b),h=>by simp only[Zcr,h s b rfl]
section
variable {P:Program} {G:Zl} {N:Nat} {Γ:Ctx} {cf:Z4} {t:ZaW} {l:List Op1} {e:Env} {H:Zd} {e':Env} {H':Zd} {os:Array Oper} {B:Nat→Nat→Prop} {Rf:RP} {wf:World}
structure ZuV (P:Program) (N:Nat) (t:ZaW) (l:List Op1) (os:Array Oper) (e:Env) (H:Zd) (Rf:RP) (wf:World) (D:Nat→Bool) (a:Act) (w:World):Prop where
 closed:Zno os D
 ex:∃K R env,K≤l.length∧(∀m p,l[m]? = some p→m<K→3≤ZX p→D m=true)∧(K<l.length→∃p,l[K]? = some p∧3≤ZX p∧D K=false) ∧
  Ext Rf wf R w∧R.OK w∧R.H=Zhh t D K∧(∀i,H.length≤i→(∀j,j<l.length→D j=true→¬(t.len j≤i∧i<t.len (j+1)))→R.M i=none)∧Zfl R w env a ∧
  (∀j p d,l[j]? = some p→p.dst=some d→D j=true→env d=t.VV j)∧(∀d,(∀j p,l[j]? = some p→p.dst=some d→D j=false)→env d=e d)
 tm:N≤a.tmps.size
 df:a.defers=[]
theorem ZvR (ht:t.OK Γ cf [] l e H e' H') {D:Nat→Bool}{s:Nat}{R:RP}{w:World} (hs:s≤l.length) (ok:R.OK w) (hH:R.H=t.HH s) (hb:∀m p,l[m]? = some p→m<s→2≤ZX p→D m=true) (ha:∀m p,l[m]? = some p→s≤m→2≤ZX p→D m=false) :
  ∃K,K≤l.length∧(∀m p,l[m]? = some p→m<K→3≤ZX p→D m=true)∧(K<l.length→∃p,l[K]? = some p∧3≤ZX p∧D K=false)∧Ext R w { R with H:=Zhh t D K } w∧RP.OK { R with H:=Zhh t D K } w:=by
 obtain⟨K,h1,h2,h3,h4⟩:=Zxt l s hs
 have live:∀(i:Nat) blk,(Zhh t D K)[i]? = some blk→blk ≠ .dead→R.H[i]? = some blk:=fun i blk h hd=>by
  obtain⟨g1,g2⟩:=Zs8 h hd
  rw[Ziu] at g2
  have hiK:i<t.len K:=(List.getElem?_eq_some_iff.1 g1).1
  by_cases hi:i<t.len s
  ·rw[hH,← ht.stay K h1 h2 h3 i hi];exact g1
  ·obtain⟨j,f1,f2,f3,f4⟩:=ht.whose K h1 h2 (by omega) hiK
   have hp:l[j]? = some (l[j]'(by omega)):=List.getElem?_eq_getElem (by omega)
   have d1:=ha j _ hp f1 (ht.new2 hp ⟨f3,f4⟩)
   rw[g2 j f2 f3 f4] at d1;cases d1
 refine⟨K,h2,fun m p hp hm hc=>?_,fun hK=>?_,Ext.kill live,ok.kill live⟩
 ·rcases Nat.lt_or_ge m s with h | h
  ·exact hb m p hp h (by omega)
  ·have:=h3 m p h hm hp;omega
 ·obtain⟨p,f1,f2⟩:=h4 hK
  exact⟨p,f1,f2,ha K p f1 h1 (by omega)⟩
def upd (D:Nat→Bool) (j:Nat):Nat→Bool:=fun i=>if i=j then true else D i
theorem step (c:Zhi P G cf Rf wf) (hlo:Rf.H.length≤H.length) (ht:t.OK Γ cf [] l e H e' H') (hk:Chk P G N os l B) {Q:Exit→Act→World→Prop}{D:Nat→Bool}{a:Act}{w:World} (s:ZuV P N t l os e H Rf wf D a w) {j:Nat}{o:Oper} (ho:os[j]? = some o) (hDj:D j=false) (hpre:∀i∈Zmb o,D i=true) :
  wpOp P os Q j (fun a' w'=>ZuV P N t l os e H Rf wf (upd D j) a' w') a w:=by
 obtain⟨K,R,env,hK,hKd,hKn,x,ok,hH,hM,hE,hV,hO⟩:=s.ex
 have hjl:j<l.length:=by rw[← hk.len];exact(Array.getElem?_eq_some_iff.1 ho).1
 obtain⟨p,hp⟩:∃p,l[j]? = some p:=⟨_,List.getElem?_eq_getElem hjl⟩
 have hoper:=hk.oper j o p ho hp
 simp only[ZkU,Bool.and_eq_true] at hoper
 obtain⟨k1,k2,k3⟩:=hoper
 have down:∀i,B i j→D i=true:=fun i hb=>hk.down s.closed j i o ho hpre hb
 have downD:∀i k,k<l.length→D k=true→B i k→D i=true:=fun i k h1 h2 h3=>hk.downD s.closed h1 h2 h3
 have slot:∀d,d∈Zbx p→env d=t.E j d:=fun d hd=>by
  by_cases hx:∃(i:Nat) (q:Op1),l[i]? = some q∧q.dst=some d
  ·obtain⟨i,q,hq,hqd⟩:=hx
   have old:j≤i→D i=false→env d=t.E j d:=fun hji hDi=>by
    rw[hO d fun i' q' hq' hqd'=>by rw[hk.dst i' i q' q d hq' hq hqd' hqd];exact hDi,ht.env0 j (by omega) fun i' q' hi' hq' hqd'=>by
     have:=hk.dst i' i q' q d hq' hq hqd' hqd;omega]
   rcases hk.reads i j q p d hq hp hqd hd with hb | hb | hb
   ·rw[hV i q d hq hqd (down i hb),ht.envd hk hq hqd j (hk.lt j i hjl hb) (by omega)]
   ·have hi:=(List.getElem?_eq_some_iff.1 hq).1
    refine old (Nat.le_of_lt (hk.lt i j hi hb)) ?_
    cases hDi:D i with
    | false=>rfl
    | true=>have:=downD j i hi hDi hb;rw[hDj] at this;cases this
   ·subst hb;exact old (Nat.le_refl _) hDj
  ·have hn:∀(i:Nat) (q:Op1),l[i]? = some q→q.dst≠some d:=fun i q hq hqd=>hx ⟨i,q,hq,hqd⟩
   rw[hO d fun i q hq hqd=>absurd hqd (hn i q hq),ht.env0 j (by omega) fun i q _ hq=>hn i q hq]
 have hg:Zcr env p.guard=some (t.W j):=by
  rw[← ht.w j p hp]
  refine Zr9 _ fun s' b hs=>slot s' ?_
  unfold Zbx
  rw[hs];simp
 have hwant:=ZlJ (a:=a) hE k2 hg
 have hop:∀nid Hm,opE Γ cf env nid Hm p.op=opE Γ cf (t.E j) nid Hm p.op:=fun nid Hm=>by
  refine Zva _ fun y hy=>?_
  cases y with
  | c v=>rfl
  | t i=>
   refine slot i ?_
   unfold Zbx
   exact List.mem_append_left _ (List.mem_filterMap.2 ⟨.t i,hy,rfl⟩)
 have closed':Zno os (upd D j):=fun k o' hk' hd i hi=>by
  unfold upd at hd ⊢
  by_cases hik:i=j
  ·rw[if_pos hik]
  ·rw[if_neg hik]
   by_cases hkj:k=j
   ·subst hkj;rw[ho] at hk';cases hk';exact hpre i hi
   ·rw[if_neg hkj] at hd;exact s.closed k o' hk' hd i hi
 have fin:∀(K':Nat) (R':RP) (u:Value) (w':World),K'≤l.length→(∀m p,l[m]? = some p→m<K'→3≤ZX p→upd D j m=true)→(K'<l.length→∃p,l[K']? = some p∧3≤ZX p∧upd D j K'=false) →
   Ext R w R' w'→R'.OK w'→R'.H=Zhh t (upd D j) K'→(∀i,R.M i=none→¬(t.len j≤i∧i<t.len (j+1))→R'.M i=none)→Z2 R' w' (t.VV j) u→ZuV P N t l os e H Rf wf (upd D j) (a.put o.dst u) w':=by
  intro K' R' u w' hK' hKd' hKn' x' ok' hH' hM' hv
  refine⟨closed',⟨K',R',ZkK env p.dst (t.VV j),hK',hKd',hKn',x.trans x',ok',hH',fun i hi hni=>?_,Zk1 (x'.envOK ok.b01 hE) k1 s.tm hv,fun i q d hq hqd hd=>?_,fun d hd=>?_⟩,by rw[ZnI];exact s.tm,by rw[ZoB];exact s.df⟩
  ·refine hM' i (hM i hi fun m hm hd=>hni m hm ?_) (hni j hjl ?_)
   ·unfold upd;split
    ·rfl
    ·exact hd
   ·unfold upd;rw[if_pos rfl]
  ·cases hpd:p.dst with
   | none=>
    show env d=_
    have hij:i≠j:=fun h=>by subst h;rw[hp] at hq;cases hq;rw[hpd] at hqd;cases hqd
    refine hV i q d hq hqd ?_
    unfold upd at hd;rw[if_neg hij] at hd;exact hd
   | some d'=>
    show(bif Nat.beq d' d then t.VV j else env d)=_
    cases hb:Nat.beq d' d with
    | true=>
     obtain rfl:=Nat.eq_of_beq_eq_true hb
     obtain rfl:=hk.dst i j q p d' hq hp hqd hpd
     rfl
    | false=>
     have hij:i≠j:=fun h=>by
      subst h;rw[hp] at hq;cases hq;rw[hpd] at hqd;cases hqd;rw[Nat.beq_refl] at hb;cases hb
     refine hV i q d hq hqd ?_
     unfold upd at hd;rw[if_neg hij] at hd;exact hd
  ·have h0:env d=e d:=hO d fun i q hq hqd=>by
    have:=hd i q hq hqd
    unfold upd at this
    by_cases hij:i=j
    ·rw[if_pos hij] at this;cases this
    ·rw[if_neg hij] at this;exact this
   cases hpd:p.dst with
   | none=>exact h0
   | some d'=>
    show(bif Nat.beq d' d then t.VV j else env d)=_
    cases hb:Nat.beq d' d with
    | false=>exact h0
    | true=>
     obtain rfl:=Nat.eq_of_beq_eq_true hb
     have:=hd j p hp hpd
     unfold upd at this;rw[if_pos rfl] at this;cases this
 have hlen:=ht.len_succ hjl
 have own:∀i m,m<l.length→(t.len m≤i∧i<t.len (m+1))→(t.len j≤i∧i<t.len (j+1))→m=j:=fun i m hm h1 h2=>ht.one hm hjl h1 h2
 have base:H.length≤t.len j:=by
  have:=ht.len_mono (a:=0) j (by omega) (by omega)
  unfold ZaW.len at this ⊢;rw[ht.h0] at this;exact this
 have free:∀i,t.len j≤i→i<t.len j+(t.NW j).length→R.M i=none:=fun i h1 h2=>hM i (by omega) fun m hm hd h=>by
  have:=own i m hm h ⟨h1,by omega⟩
  subst this;rw[hDj] at hd;cases hd
 rcases Nat.lt_or_ge (ZX p) 3 with hc | hc
 ·
  have hKd':∀m p,l[m]? = some p→m<K→3≤ZX p→upd D j m=true:=fun m p' h1 h2 h3=>by
   unfold upd;split
   ·rfl
   ·exact hKd m p' h1 h2 h3
  have hKn':K<l.length→∃p,l[K]? = some p∧3≤ZX p∧upd D j K=false:=fun h=>by
   obtain⟨q,h1,h2,h3⟩:=hKn h
   refine⟨q,h1,h2,?_⟩
   unfold upd;rw[if_neg (fun h=>by subst h;rw[hp] at h1;cases h1;omega)];exact h3
  have two:2≤ZX p→j<K∧∀m q,j≤m→m<K→l[m]? = some q→ZX q≤2:=fun h2=>by
   constructor
   ·rcases Nat.lt_or_ge j K with h | h
    ·exact h
    ·obtain⟨q,g1,g2,g3⟩:=hKn (by omega)
     rcases hk.order g1 hp g2 h2 with f | f | f
     ·subst f;rw[hp] at g1;cases g1;omega
     ·rw[down K f.2] at g3;cases g3
     ·omega
   ·intro m q h3 h4 hq
    rcases Nat.lt_or_ge (ZX q) 3 with h | h
    ·omega
    ·rcases hk.order hq hp h h2 with f | f | f
     ·subst f;rw[hp] at hq;cases hq;omega
     ·omega
     ·have:=downD j m (by omega) (hKd m q hq h4 h) f.2
      rw[hDj] at this;cases this
  have stg:∀i,(Zhh t (upd D j) K)[i]? = if t.len j≤i∧i<t.len j+(t.NW j).length then (t.NW j)[i-t.len j]? else (Zhh t D K)[i]?:=fun i=>by
   by_cases hi:t.len j≤i∧i<t.len j+(t.NW j).length
   ·rw[if_pos hi]
    have h2:=ht.new2 hp (i:=i) ⟨hi.1,by omega⟩
    obtain⟨t1,t2⟩:=two h2
    rw[Zfq]
    ·rw[ht.stay (a:=j+1) K (by omega) hK (fun m q h3 h4 hq=>t2 m q (by omega) h4 hq) i (by omega),ht.stay1 hp (by omega),List.getElem?_append_right hi.1]
     rfl
    ·rw[Ziu]
     intro m hm h3 h4
     have:=own i m (by omega) ⟨h3,h4⟩ ⟨hi.1,by omega⟩
     unfold upd;rw[if_pos this]
   ·rw[if_neg hi,ZjY,ZjY]
    have:hid t (upd D j) K i=hid t D K i:=by
     rw[Bool.eq_iff_iff,ZqG,ZqG]
     constructor
     ·rintro ⟨m,h1,h2,h3⟩
      unfold upd at h2
      by_cases hm:m=j
      ·rw[if_pos hm] at h2;cases h2
      ·rw[if_neg hm] at h2;exact⟨m,h1,h2,h3⟩
     ·rintro ⟨m,h1,h2,h3,h4⟩
      have hm:m≠j:=fun h=>by subst h;omega
      exact⟨m,h1,by unfold upd;rw[if_neg hm];exact h2,h3,h4⟩
    rw[this]
  have hpl:t.UP j=[]:=ht.noUp hp (by omega)
  unfold wpOp
  simp only[ho]
  cases hw:t.W j with
  | false=>
   rw[hw] at hwant
   rw[hwant]
   simp only[Bool.false_eq_true,if_false]
   obtain⟨n1,n2,n3⟩:=ht.n j p hp hw
   refine fin K R undef w hK hKd' hKn' (Ext.refl R w) ok ?_ (fun i h _=>h) (by rw[n1];exact Zn9)
   rw[hH]
   apply List.ext_getElem?
   intro i
   rw[stg i,n3,if_neg (by rintro ⟨h1,h2⟩;simp at h2;omega)]
  | true=>
   rw[hw] at hwant
   rw[hwant]
   simp only[if_true]
   obtain⟨y1,y2⟩:=ht.y j p hp hw
   rw[hpl] at y1
   have see:ZX p≤2→∀i blk,(Ze7 (t.HH j) ([]++t.pos j) p.mask)[i]? = some blk→blk ≠ .dead→(t.HH j)[i]? = some blk∧∀m,m<j→t.len m≤i→i<t.len (m+1)→D m=true:=fun _ i blk h hd=>by
    obtain⟨h1,h2⟩:=Zmz _ _ _ i blk h hd
    refine⟨h1,fun m hm h3 h4=>?_⟩
    have hq:l[m]? = some (l[m]'(by omega)):=List.getElem?_eq_getElem (by omega)
    rcases hk.early m j _ p hq hp hm with f | f | f
    ·omega
    ·exact down m f
    ·have h5:=h2 m f (t.len m) (t.NW m).length (by simp[ZaW.pos,hm,ZaW.len])
     have:=ht.len_succ (j:=m) (by omega)
     omega
   have hHm:∃Hm,(∀b blk,nth Hm b=some blk→blk ≠ .dead→nth R.H b=some blk)∧opE Γ cf env (t.len j) Hm p.op=some (t.VV j,[],t.NW j):=by
    rcases Nat.lt_or_ge (ZX p) 2 with h2 | h2
    ·rcases Zp4 (p:=p) (by omega) with⟨_,h0⟩ | ⟨h01,h1,hne⟩ | ⟨h01,he1⟩
     ·refine⟨[],fun b blk hb=>by simp[nth] at hb,?_⟩
      rw[hop,Zy1 (nid':=(t.HH j).length) (H':=Ze7 (t.HH j) ([]++t.pos j) p.mask) h0];exact y1
     ·refine⟨R.H,fun b blk hb _=>hb,?_⟩
      rw[hop]
      refine ZyX (H:=Ze7 (t.HH j) ([]++t.pos j) p.mask) (fun b blk hb hd=>?_) h1 y1
      rw[ZB] at hb
      obtain⟨g1,g2⟩:=see (by omega) b blk hb hd
      have hbj:b<t.len j:=(List.getElem?_eq_some_iff.1 g1).1
      have hbK:b<t.len K:=by
       rcases Nat.lt_or_ge j K with h | h
       ·have:=ht.len_mono (a:=j) K (by omega) hK;omega
       ·by_cases hb0:b<t.len 0
        ·have:=ht.len_mono (a:=0) K (by omega) hK;omega
        ·obtain⟨m,_,f2,f3,f4⟩:=ht.whose (a:=0) j (by omega) (by omega) (by omega) hbj
         have hdm:=g2 m f2 f3 f4
         have hq:l[m]? = some (l[m]'(by omega)):=List.getElem?_eq_getElem (by omega)
         have hmK:m<K:=by
          rcases Nat.lt_or_ge m K with h' | h'
          ·exact h'
          ·obtain⟨q,q1,q2,q3⟩:=hKn (by omega)
           rcases hk.order q1 hq q2 (ht.new2 hq ⟨f3,f4⟩) with f | f | f
           ·subst f;rw[hdm] at q3;cases q3
           ·rw[downD K m (by omega) hdm f.2] at q3;cases q3
           ·omega
         have:=ht.len_mono (a:=m+1) K (by omega) hK;omega
      have hhid:hid t D K b=false:=by
       rw[Ziu]
       intro m hm h3 h4
       rcases Nat.lt_or_ge m j with h | h
       ·exact g2 m h h3 h4
       ·have:=ht.len_mono (a:=j) m h (by omega);omega
      rw[ZB,hH,Zfq hhid]
      have three:∀m q,l[m]? = some q→(j≤m∧m<K∨K≤m∧m<j)→ZX q≤3:=fun m q hq hm=>by
       rcases Nat.lt_or_ge (ZX q) 3 with h | h
       ·omega
       ·rcases hk.pair m j q p hq hp h with f | f | f | f | f | f
        ·subst f;rw[hp] at hq;cases hq;omega
        ·rcases hm with hm | hm
         ·have:=hk.lt j m hjl f;omega
         ·have hdm:=down m f
          obtain⟨q',q1,q2,q3⟩:=hKn (by omega)
          rcases hk.order q1 hq q2 (by omega) with g | g | g
          ·subst g;rw[hdm] at q3;cases q3
          ·rw[downD K m (by omega) hdm g.2] at q3;cases q3
          ·omega
        ·rcases hm with hm | hm
         ·have:=downD j m (by omega) (hKd m q hq hm.2 h) f
          rw[hDj] at this;cases this
         ·have:=hk.lt m j (by omega) f;omega
        ·omega
        ·omega
        ·exact absurd f.1 hne
      rcases Nat.le_total j K with h | h
      ·obtain⟨x1,y1',z1,z2,z3⟩:=ht.like hk (a:=j) K h hK (fun m q h3 h4 hq=>three m q hq (.inl ⟨h3,h4⟩)) b hbj
       rw[g1] at z1;cases z1
       exact⟨y1',z2,z3.elim (fun h=>h ▸ Blk.like_refl hd) id⟩
      ·obtain⟨x1,y1',z1,z2,z3⟩:=ht.like hk (a:=K) j h (by omega) (fun m q h3 h4 hq=>three m q hq (.inr ⟨h3,h4⟩)) b hbK
       rw[g1] at z2;cases z2
       exact⟨x1,z1,z3.elim (fun h=>by subst h;exact Blk.like_refl hd) Blk.like_symm⟩
     ·
      obtain⟨n0,ag0,s',hops,hgd⟩:∃n0 ag0 s',p.op = .load n0 ag0 (.t s')∧p.guard=none:=by
       have:=hk.eff1 j p hp
       unfold ZsJ at this
       rw[he1] at this
       change (match p.op,p.guard with | .load _ _ (.t _),none=>true | _,_=>false)=true at this
       split at this
       ·exact⟨_,_,_,by assumption,by assumption⟩
       ·cases this
      have hsl:s'∈Zbx p:=by unfold Zbx;rw[hops];simp[ZtZ,ZxF]
      have hjK:j<K:=by
       rcases Nat.lt_or_ge j K with h | h
       ·exact h
       ·obtain⟨q,g1,g2,g3⟩:=hKn (by omega)
        rcases hk.pair K j q p g1 hp g2 with f | f | f | f | f | f
        ·subst f;rw[hp] at g1;cases g1;omega
        ·rw[down K f] at g3;cases g3
        ·have:=hk.lt K j (by omega) f;omega
        ·omega
        ·exact absurd he1 f.2.2
        ·omega
      have ldE:∀(Hx:Zd) (k:Nat),opE Γ cf (t.E j) k Hx p.op=(match ZbY Hx n0 ag0 (t.E j s') with | some v=>ZaR v | none=>none):=fun Hx k=>by rw[hops];rfl
      rw[ldE] at y1
      have hyl:ZbY (Ze7 (t.HH j) ([]++t.pos j) p.mask) n0 ag0 (t.E j s')=some (t.VV j)∧t.NW j=[]:=by
       cases hl:ZbY (Ze7 (t.HH j) ([]++t.pos j) p.mask) n0 ag0 (t.E j s') with
       | none=>rw[hl] at y1;cases y1
       | some v=>
        rw[hl] at y1
        obtain⟨rfl,_,h3⟩:=ZO y1
        exact⟨rfl,h3⟩
      obtain⟨hyl,hnw⟩:=hyl
      have key:∀k,j≤k→k≤K→ZbY (t.HH k) n0 ag0 (t.E j s')=some (t.VV j):=by
       intro k
       induction k with
       | zero=>
        intro h _
        have:j=0:=by omega
        subst this
        exact ZjM hyl fun b _ blk hb hd=>(see (by omega) b blk hb hd).1
       | succ k ih=>
        intro hjk hkK
        by_cases hjk':j=k+1
        ·subst hjk'
         exact ZjM hyl fun b _ blk hb hd=>(see (by omega) b blk hb hd).1
        ·have ih':=ih (by omega) (by omega)
         have hq:l[k]? = some (l[k]'(by omega)):=List.getElem?_eq_getElem (by omega)
         have app:∀(Ha Hb:Zd),ZbY Ha n0 ag0 (t.E j s')=some (t.VV j)→ZbY (Ha++Hb) n0 ag0 (t.E j s')=some (t.VV j):=fun Ha Hb hl=>
          ZjM hl fun b _ blk hb _=>by rw[List.getElem?_append_left (List.getElem?_eq_some_iff.1 hb).1];exact hb
         rcases Nat.lt_or_ge (ZX (l[k]'(by omega))) 3 with h | h
         ·rw[ht.stay1 hq (by omega)]
          exact app _ _ ih'
         ·rcases hk.pair k j _ p hq hp h with f | f | f | f | f | f
          ·subst f
           rw[hp] at hq
           have hq':=Option.some.inj hq
           rw[← hq'] at h
           omega
          ·have:=hk.lt j k hjl f;omega
          ·have:=downD j k (by omega) (hKd k _ hq (by omega) h) f
           rw[hDj] at this;cases this
          ·omega
          ·exact absurd he1 f.2.2
          ·cases hwk:t.W k with
           | false=>
            obtain⟨_,n2,n3⟩:=ht.n k _ hq hwk
            rw[ht.h k _ hq,n2,n3]
            exact app _ _ ih'
           | true=>
            have zc:=(ZlY (ht.y k _ hq hwk).2).2
            have hkp:=f.2.2
            unfold ZwI at hkp
            rw[hops] at hkp
            split at hkp
            ·rename_i f' args chk s'' hopk hsx
             cases hsx
             rw[hopk] at zc
             obtain⟨i0,q1,q2⟩:=ZsH (show Zu6 (t.E k) (t.HH k) (Zbd (t.HH k) (t.UP k)) chk=true from zc) hkp
             rw[ht.envs hk hp he1 hsl k (by omega) (by omega)] at q1 q2
             rw[q1] at ih'
             rw[ht.h k _ hq]
             exact app _ _ (q2.trans ih')
            ·rename_i m' x' y' chk n' a' s'' hopk hsx
             cases hsx
             rw[hopk] at zc
             have ap:=ZnU (show Zmo (t.E k) (t.UP k) chk=true from zc) hkp
             rw[ht.envs hk hp he1 hsl k (by omega) (by omega)] at ap
             rw[ht.h k _ hq]
             refine app _ _ (ZjM ih' fun b hb blk hbk _=>?_)
             rw[ZrB (ap b hb)]
             exact hbk
            ·cases hkp
      refine⟨R.H,fun b blk hb _=>hb,?_⟩
      rw[hop,ldE]
      have:ZbY R.H n0 ag0 (t.E j s')=some (t.VV j):=by
       refine ZjM (key K (by omega) (Nat.le_refl _)) fun b hb blk hbk hd=>?_
       obtain⟨blk0,h5,h6⟩:=ZuR hyl hb
       obtain⟨g1,g2⟩:=see (by omega) b blk0 h5 h6
       have hbj:b<t.len j:=(List.getElem?_eq_some_iff.1 g1).1
       rw[hH,Zfq]
       ·exact hbk
       ·rw[Ziu]
        intro m hm h3 h4
        rcases Nat.lt_or_ge m j with h | h
        ·exact g2 m h h3 h4
        ·have:=ht.len_mono (a:=j) m h (by omega);omega
      rw[this,hnw];rfl
    ·obtain⟨t1,t2⟩:=two h2
     refine⟨_,fun b blk hb hd=>?_,by rw[hop];exact y1⟩
     rw[ZB] at hb
     obtain⟨g1,g2⟩:=see (by omega) b blk hb hd
     have hbj:b<t.len j:=(List.getElem?_eq_some_iff.1 g1).1
     rw[ZB,hH,Zfq,ht.stay K (by omega) hK t2 b hbj]
     ·exact g1
     ·rw[Ziu]
      intro m hm h3 h4
      rcases Nat.lt_or_ge m j with h | h
      ·exact g2 m h h3 h4
      ·have:=ht.len_mono (a:=j) m h (by omega);omega
   obtain⟨Hm,hle,hop'⟩:=hHm
   have pre:Pre G R w env a Hm:=⟨ok,x.gok c.ok.b01 c.g,hE,hle⟩
   have hplaced:ZH R.H [] (t.len j) (t.NW j) (Zhh t (upd D j) K):=fun i=>by rw[stg i,hH];rfl
   refine .inl ((Zus pre c.cf k3 hop' free hplaced).wp fun u w' hpost=>?_)
   obtain⟨R',x',ok',hH',hv,hM'⟩:=hpost
   exact fin K R' u w' hK hKd' hKn' x' ok' hH' (fun i h1 h2=>hM' i h1 (by omega)) hv
 ·
  have hjK:j=K:=by
   rcases Nat.lt_trichotomy j K with h | h | h
   ·rw[hKd j p hp h hc] at hDj;cases hDj
   ·exact h
   ·obtain⟨q,g1,g2,g3⟩:=hKn (by omega)
    rcases hk.order g1 hp g2 (by omega) with f | f | f
    ·omega
    ·rw[down K f.2] at g3;cases g3
    ·omega
  subst hjK
  have below:∀m q,l[m]? = some q→m<j→2≤ZX q→D m=true:=fun m q hq hm h2=>by
   rcases hk.order hp hq hc h2 with f | f | f
   ·omega
   ·omega
   ·exact down m f.2
  have above:∀m q,l[m]? = some q→j<m→2≤ZX q→D m=false:=fun m q hq hm h2=>by
   cases hd:D m with
   | false=>rfl
   | true=>
    rcases hk.order hp hq hc h2 with f | f | f
    ·omega
    ·have:=downD j m (List.getElem?_eq_some_iff.1 hq).1 hd f.2
     rw[hDj] at this;cases this
    ·omega
  have full:Zhh t D j=t.HH j:=by
   apply List.ext_getElem?
   intro i
   refine Zfq (Ziu.2 fun m hm h3 h4=>?_)
   have hq:l[m]? = some (l[m]'(by omega)):=List.getElem?_eq_getElem (by omega)
   exact below m _ hq hm (ht.new2 hq ⟨h3,h4⟩)
  rw[full] at hH
  have go:∀(R':RP) (u:Value) (w':World),Ext R w R' w'→R'.OK w'→R'.H=t.HH (j+1)→(∀i,R.M i=none→¬(t.len j≤i∧i<t.len (j+1))→R'.M i=none)→Z2 R' w' (t.VV j) u→ZuV P N t l os e H Rf wf (upd D j) (a.put o.dst u) w':=by
   intro R' u w' x' ok' hH' hM' hv
   obtain⟨K',g1,g2,g3,g4,g5⟩:=ZvR ht (D:=upd D j) (s:=j+1) (by omega) ok' hH' (fun m q hq hm h2=>by
    unfold upd
    by_cases hmj:m=j
    ·rw[if_pos hmj]
    ·rw[if_neg hmj];exact below m q hq (by omega) h2) (fun m q hq hm h2=>by
    unfold upd;rw[if_neg (by omega)];exact above m q hq (by omega) h2)
   exact fin K' _ u w' g1 g2 g3 (x'.trans g4) g5 rfl hM' (g4.denV ok'.b01 _ _ hv)
  unfold wpOp
  simp only[ho]
  cases hw:t.W j with
  | false=>
   rw[hw] at hwant
   rw[hwant]
   simp only[Bool.false_eq_true,if_false]
   obtain⟨n1,n2,n3⟩:=ht.n j p hp hw
   refine go R undef w (Ext.refl R w) ok ?_ (fun i h _=>h) (by rw[n1];exact Zn9)
   rw[hH,ht.h j p hp,n2,n3];simp[Zbd]
  | true=>
   rw[hw] at hwant
   rw[hwant]
   simp only[if_true]
   obtain⟨y1,y2⟩:=ht.y j p hp hw
   rw[hk.mask j p hp hc] at y1
   have pre:Pre G R w env a (t.HH j):=⟨ok,x.gok c.ok.b01 c.g,hE,fun b blk hb _=>by rw[hH];exact hb⟩
   have hplaced:ZH R.H (t.UP j) (t.len j) (t.NW j) (t.HH (j+1)):=by
    rw[hH,ht.h j p hp];exact Zg3 _ _ _
   refine .inl ((Zus pre c.cf k3 (by rw[hop];exact y1) free hplaced).wp fun u w' hpost=>?_)
   obtain⟨R',x',ok',hH',hv,hM'⟩:=hpost
   exact go R' u w' x' ok' hH' (fun i h1 h2=>hM' i h1 (by omega)) hv
theorem Zqm {p q:Nat→Bool}:∀(l:List Nat) (j:Nat),(∀x,q x=true→p x=true)→j∈l→p j=true→q j=false→l.countP q<l.countP p
 | [],j,_,h,_,_=>by cases h
 | x :: l,j,hq,h,h1,h2=>by
  have mono:∀l:List Nat,l.countP q≤l.countP p:=fun l=>List.countP_mono_left fun x _ h=>hq x h
  rw[List.countP_cons,List.countP_cons]
  by_cases hx:x=j
  ·subst hx
   have:=mono l
   rw[h1,h2];simp;omega
  ·have:=Zqm l j hq ((List.mem_cons.1 h).resolve_left (fun h=>hx h.symm)) h1 h2
   cases hqx:q x with
   | true=>rw[hq x hqx];simp;omega
   | false=>cases hpx:p x<;>simp<;>omega
theorem ZvV (c:Zhi P G cf Rf wf) (hlo:Rf.H.length≤H.length) (ht:t.OK Γ cf [] l e H e' H') (hk:Chk P G N os l B) {Q:Exit→Act→World→Prop} (hQ:∀D a w,(∀j,j<l.length→D j=true)→ZuV P N t l os e H Rf wf D a w→Q .normal a w) :
  ∀(fuel:Nat) (listed:Array Bool) (a:Act) (w:World),listed.size=os.size→ZuV P N t l os e H Rf wf (fun j=>listed.getD j false) a w→(List.range os.size).countP (fun j=>!listed.getD j false)≤fuel→wpAny P .any os Q fuel listed a w:=by
 have full:∀(listed:Array Bool),listed.size=os.size→(Region.ready .any os listed=[])→∀j,j<l.length→listed.getD j false=true:=by
  intro listed hsz hr j
  induction j using Nat.strongRecOn with
  | ind j ih=>
   intro hj
   have hjs:j<os.size:=by rw[hk.len];exact hj
   cases hd:listed.getD j false with
   | true=>rfl
   | false=>
    have:j∈Region.ready .any os listed:=by
     rw[mem_ready]
     refine⟨?_,os[j],Array.getElem?_eq_getElem hjs,fun ed he hb=>?_⟩
     ·simp only[Array.getD_eq_getD_getElem?] at hd ⊢
      rw[Array.getElem?_eq_getElem (by omega)] at hd ⊢;exact hd
     ·have hlt:=hk.pre j _ (Array.getElem?_eq_getElem hjs) ed.on (by
       unfold Zmb
       exact List.mem_map.2 ⟨ed,List.mem_filter.2 ⟨by simpa using he,hb⟩,rfl⟩)
      exact ih ed.on hlt (by omega)
    rw[hr] at this;cases this
 intro fuel
 induction fuel with
 | zero=>
  intro listed a w hsz s hc
  have hall:∀j,j<l.length→listed.getD j false=true:=fun j hj=>by
   cases hd:listed.getD j false with
   | true=>rfl
   | false=>
    have h1:0<(List.range os.size).countP (fun j=>!listed.getD j false):=List.countP_pos_iff.2 ⟨j,by simp[hk.len,hj],by simp only[hd];rfl⟩
    omega
  refine⟨?_,hQ _ a w hall s⟩
  apply List.eq_nil_iff_forall_not_mem.2
  intro j hj
  obtain⟨h1,o,h2,_⟩:=mem_ready.1 hj
  have hjs:=(Array.getElem?_eq_some_iff.1 h2).1
  have:=hall j (by rw[← hk.len];exact hjs)
  simp only[Array.getD_eq_getD_getElem?] at h1 this
  rw[Array.getElem?_eq_getElem (by omega)] at h1 this
  simp at h1 this;rw[h1] at this;cases this
 | succ fuel ih=>
  intro listed a w hsz s hc
  refine⟨fun hr=>hQ _ a w (full listed hsz hr) s,fun j hj=>?_⟩
  obtain⟨h1,o,h2,h3⟩:=mem_ready.1 hj
  have hjs:=(Array.getElem?_eq_some_iff.1 h2).1
  have hd:listed.getD j false=false:=by
   simp only[Array.getD_eq_getD_getElem?] at h1 ⊢
   rw[Array.getElem?_eq_getElem (by omega)] at h1 ⊢;exact h1
  have hup:upd (fun j=>listed.getD j false) j=fun k=>(listed.setIfInBounds j true).getD k false:=by
   funext k
   unfold upd
   by_cases hkj:k=j
   ·subst hkj
    rw[if_pos rfl]
    simp[Array.getD_eq_getD_getElem?,hsz,hjs]
   ·rw[if_neg hkj,getD_set_ne false (fun h=>hkj h.symm)]
  refine wpOp_mono (fun a' w' s'=>ih _ a' w' (by simp[hsz]) s' ?_) (hup ▸ step c hlo ht hk s h2 hd fun i hi=>?_)
  ·have:=Zqm (p:=fun j=>!listed.getD j false) (q:=fun k=>!(listed.setIfInBounds j true).getD k false) (List.range os.size) j (fun k hk'=>by
    by_cases hkj:j=k
    ·subst hkj;simp only[hd];rfl
    ·rw[getD_set_ne false hkj] at hk';exact hk') (by simp[hjs]) (by simp only[hd];rfl) (by simp[Array.getD_eq_getD_getElem?,hsz,hjs])
   omega
  ·unfold Zmb at hi
   obtain⟨ed,f1,rfl⟩:=List.mem_map.1 hi
   obtain⟨f2,f3⟩:=List.mem_filter.1 f1
   exact h3 ed (by simpa using f2) f3
end
theorem ZyI {P:Program}{G:Zl}{N:Nat}{Γ:Ctx}{cf:Z4}:ZkR P G N Γ cf (Zq P G N):=by
 intro id os l Rf wf e H e' H' a w hok hd c s
 obtain⟨B,hk⟩:=Zto hok
 obtain⟨t,ht⟩:=Zn3 l [] e H e' H' hd
 obtain⟨R,x,ok,hH,hM,hE⟩:=s.ex
 refine wp_region_any hk.mixed ?_
 have xd:Ext R w R { w with drawn:=w.drawn+1 }:=Ext.draw rfl rfl rfl rfl
 have okd:R.OK { w with drawn:=w.drawn+1 }:=ok.draw rfl rfl rfl rfl
 refine ZvV c s.hl ht hk (fun D a' w' hall s'=>?_) os.size _ a _ (by simp) ?_ ?_
 ·obtain⟨K,R',env,h1,h2,h3,x',ok',hH',hM',hE',hV,hO⟩:=s'.ex
  have hKl:K=l.length:=by
   rcases Nat.lt_or_ge K l.length with h | h
   ·obtain⟨_,_,_,h4⟩:=h3 h
    rw[hall K h] at h4;cases h4
   ·omega
  subst hKl
  have hHe:Zhh t D l.length=H':=by
   rw[← ht.h1]
   apply List.ext_getElem?
   intro i
   exact Zfq (Ziu.2 fun m hm _ _=>hall m hm)
  have hle:H.length≤H'.length:=by
   have:=ht.len_mono (a:=0) l.length (by omega) (Nat.le_refl _)
   unfold ZaW.len at this;rw[ht.h0,ht.h1] at this;exact this
  have henv:∀d,env d=e' d:=fun d=>by
   rw[← ht.e1]
   by_cases hx:∃(i:Nat) (q:Op1),l[i]? = some q∧q.dst=some d
   ·obtain⟨i,q,hq,hqd⟩:=hx
    have hi:=(List.getElem?_eq_some_iff.1 hq).1
    rw[hV i q d hq hqd (hall i hi),ht.envd hk hq hqd l.length hi (Nat.le_refl _)]
   ·have hn:∀(i:Nat) (q:Op1),l[i]? = some q→q.dst≠some d:=fun i q hq hqd=>hx ⟨i,q,hq,hqd⟩
    rw[hO d fun i q hq hqd=>absurd hqd (hn i q hq),ht.env0 l.length (Nat.le_refl _) fun i q _ hq=>hn i q hq]
  refine⟨rfl,⟨⟨R',x',ok',by rw[hH',hHe],fun i hi=>hM' i (by omega) fun j hj _ hb=>?_,fun d=>by rw[← henv d];exact hE' d⟩,s'.tm,s'.df,by have:=s.hl;omega⟩⟩
  have:=ht.len_mono (a:=j+1) l.length (by omega) (Nat.le_refl _)
  have h2:t.len l.length=H'.length:=by unfold ZaW.len;rw[ht.h1]
  omega
 ·have hf:∀j,(Array.replicate os.size false).getD j false=false:=fun j=>by
   by_cases hj:j<os.size<;>simp[Array.getD_eq_getD_getElem?,hj]
  obtain⟨K,g1,g2,g3,g4,g5⟩:=ZvR ht (D:=fun j=>(Array.replicate os.size false).getD j false) (s:=0) (Nat.zero_le _) okd (by rw[ht.h0];exact hH) (fun m p _ hm=>by omega) (fun m p _ _ _=>hf m)
  refine⟨fun j o _ hd=>(by rw[hf j] at hd;cases hd),⟨K,_,e,g1,g2,g3,(x.trans xd).trans g4,g5,rfl,fun i hi _=>hM i hi,g4.envOK okd.b01 (xd.envOK ok.b01 hE),fun j p d _ _ hd=>(by rw[hf j] at hd;cases hd),fun d _=>rfl⟩,s.tm,s.df⟩
 ·exact Nat.le_trans List.countP_le_length (by simp)
theorem ZvO {P:Program}{G:Zl}{Γ:Ctx} (hall:∀f fn,Γ.code f=some fn→ZM P G (fun N=>Zq P G N) f fn=true∨Zmd P G f fn):Zey P G (evW Γ):=
 ZzD (fun _ _ _=>ZyI) hall
end Go.Proofs.YtgcfmiajkbbmeaaGreatE
namespace Go.Proofs.YtgcfmiajkbbmeaaGreat
open Go Go.Proofs Go.Proofs.YtgcfmiajkbbmeaaGreatE
open Go.IntKind (u64 i64 u32 i32 u8)
theorem Zv3 (x:Int):0≤u64.wrap x∧u64.wrap x<18446744073709551616:=by
 have:u64.wrap x=x % 18446744073709551616:=by simp[IntKind.wrap,IntKind.bits,IntKind.signed]
 omega
theorem tz0 (n:Int) (w:World) (hw:∀i,i<64→∃m,w.cell? ⟨1,i,none⟩=some (.int .u8 m)):Calls Tryz.prog 207 #[.int .u64 n] w fun e w'=>∃u,e = .returned u∧w'=w:=by
 have hr:=Zv3 (bits BinOp.and u64 n (u64.wrap (-n))*285870213051353865)
 obtain⟨m,hm⟩:=hw (u64.wrap (bits BinOp.and u64 n (u64.wrap (-n))*285870213051353865) / 288230376151711744).toNat (by omega)
 go_enter Tryz.func207,Tryz.ntmps207
 go_wp2
 all_goals
  go_ret
  exact⟨_,rfl,rfl⟩
theorem Ztv:∀l:List (IntKind×Int),gD l=l.map fun x=>D.int x.1 x.2
 | []=>rfl
 | x :: r=>by show _ :: gD r=_;rw[Ztv r];rfl
theorem ZAw {G:Zl}{row:List (IntKind×Int)} (hg:G 1=some row) (hl:row.length=64) (hk:∀x∈row,x.1 = .u8):ZwJ Tryz.prog G 207:=by
 intro n R w ok g
 refine tz0 n w fun i hi=>?_
 obtain⟨b,off,h1,_,_,h2⟩:=g 1 row hg
 cases h1
 have hx:(gD row)[i]? = some (.int row[i].1 row[i].2):=by rw[Ztv,List.getElem?_map,List.getElem?_eq_getElem (by omega)];rfl
 obtain⟨u,q1,q2⟩:=Zhf _ _ _ _ h2 hx
 have hu:u = .int row[i].1 row[i].2:=q2
 rw[hk _ (List.getElem_mem _)] at hu
 rw[Nat.zero_add] at q1
 exact⟨_,by rw[q1,hu]⟩
def ZnX (G:Zl):Prop:=∃row:List (IntKind×Int),G 1=some row∧row.length=64∧∀x∈row,x.1 = .u8
theorem ZyE {G:Zl} (hG:ZnX G):ZwJ Tryz.prog G 207:=by
 obtain⟨row,h1,h2,h3⟩:=hG
 exact ZAw h1 h2 h3
open Go Go.Proofs Go.Proofs.YtgcfmiajkbbmeaaGreatE Go.Shelf Go.Sort
def Zyn:Ren:=⟨fun | 189=>110 | 125=>117 | 257=>116 | 128=>131 | 129=>132 | 294=>122 | 295=>123 | 296=>124 | 297=>125 | 298=>126 | 299=>127 | 216=>128 | 300=>129 | 301=>130 | 328=>136 | 329=>137 | 330=>138 | 331=>139 | 332=>140 | 215=>141 | 343=>142 | n=>n,fun | 28=>22 | 3=>3 | 46=>155 | 0=>0 | 51=>169 | 53=>171 | 4=>4 | 183=>163 | 182=>162 | 131=>149 | 5=>5 | 9=>9 | 218=>175 | 222=>179 | 228=>181 | 229=>182 | n=>n,fun n=>n⟩
theorem Zse:Lays.n189 Tryz.prog Zyn where
 mixed:=by kernel_rfl
 f125:=Tryz.func117.trans (congrArg some (by kernel_rfl))
 f128:=Tryz.func131.trans (congrArg some (by kernel_rfl))
 f129:=Tryz.func132.trans (congrArg some (by kernel_rfl))
 f189:=Tryz.func110.trans (congrArg some (by kernel_rfl))
 f215:=Tryz.func141.trans (congrArg some (by kernel_rfl))
 f216:=Tryz.func128.trans (congrArg some (by kernel_rfl))
 f257:=Tryz.func116.trans (congrArg some (by kernel_rfl))
 f294:=Tryz.func122.trans (congrArg some (by kernel_rfl))
 f295:=Tryz.func123.trans (congrArg some (by kernel_rfl))
 f296:=Tryz.func124.trans (congrArg some (by kernel_rfl))
 f297:=Tryz.func125.trans (congrArg some (by kernel_rfl))
 f298:=Tryz.func126.trans (congrArg some (by kernel_rfl))
 f299:=Tryz.func127.trans (congrArg some (by kernel_rfl))
 f300:=Tryz.func129.trans (congrArg some (by kernel_rfl))
 f301:=Tryz.func130.trans (congrArg some (by kernel_rfl))
 f328:=Tryz.func136.trans (congrArg some (by kernel_rfl))
 f329:=Tryz.func137.trans (congrArg some (by kernel_rfl))
 f330:=Tryz.func138.trans (congrArg some (by kernel_rfl))
 f331:=Tryz.func139.trans (congrArg some (by kernel_rfl))
 f332:=Tryz.func140.trans (congrArg some (by kernel_rfl))
 f343:=Tryz.func142.trans (congrArg some (by kernel_rfl))
 t0:=Tryz.underlying0
 a0:=Tryz.isAgg0
 z0:=Tryz.sizeOf0
 v0:=Tryz.zeroValue0
 t3:=Tryz.underlying3
 a3:=Tryz.isAgg3
 z3:=Tryz.sizeOf3
 v3:=Tryz.zeroValue3
 t4:=Tryz.underlying4
 a4:=Tryz.isAgg4
 z4:=Tryz.sizeOf4
 v4:=Tryz.zeroValue4
 t5:=Tryz.underlying5
 a5:=Tryz.isAgg5
 z5:=Tryz.sizeOf5
 v5:=Tryz.zeroValue5
 t9:=Tryz.underlying9
 a9:=Tryz.isAgg9
 z9:=Tryz.sizeOf9
 v9:=Tryz.zeroValue9
 t28:=Tryz.underlying22
 a28:=Tryz.isAgg22
 z28:=Tryz.sizeOf22
 v28:=Tryz.zeroValue22
 t46:=Tryz.underlying155
 a46:=Tryz.isAgg155
 z46:=Tryz.sizeOf155
 v46:=Tryz.zeroValue155
 t51:=Tryz.underlying169
 a51:=Tryz.isAgg169
 z51:=Tryz.sizeOf169
 v51:=Tryz.zeroValue169
 t53:=Tryz.underlying171
 a53:=Tryz.isAgg171
 z53:=Tryz.sizeOf171
 v53:=Tryz.zeroValue171
 t131:=Tryz.underlying149
 a131:=Tryz.isAgg149
 z131:=Tryz.sizeOf149
 v131:=Tryz.zeroValue149
 t182:=Tryz.underlying162
 a182:=Tryz.isAgg162
 z182:=Tryz.sizeOf162
 v182:=Tryz.zeroValue162
 t183:=Tryz.underlying163
 a183:=Tryz.isAgg163
 z183:=Tryz.sizeOf163
 v183:=Tryz.zeroValue163
 t218:=Tryz.underlying175
 a218:=Tryz.isAgg175
 z218:=Tryz.sizeOf175
 v218:=Tryz.zeroValue175
 t222:=Tryz.underlying179
 a222:=Tryz.isAgg179
 z222:=Tryz.sizeOf179
 v222:=Tryz.zeroValue179
 t228:=Tryz.underlying181
 a228:=Tryz.isAgg181
 z228:=Tryz.sizeOf181
 v228:=Tryz.zeroValue181
 t229:=Tryz.underlying182
 a229:=Tryz.isAgg182
 z229:=Tryz.sizeOf182
 v229:=Tryz.zeroValue182
theorem Zl1 (x:Int):∀l:List Int,(ZqB x l).Perm (x :: l)
 | []=>.refl _
 | y :: r=>by
  unfold ZqB
  cases decide (x≤y) with
  | true=>exact .refl _
  | false=>exact((Zl1 x r).cons y).trans (.swap x y r)
theorem ZmH (x:Int):∀l:List Int,l.Pairwise (· ≤ ·)→(ZqB x l).Pairwise (· ≤ ·)
 | [],_=>by simp[ZqB]
 | y :: r,h=>by
  have h':=List.pairwise_cons.1 h
  unfold ZqB
  cases hd:decide (x≤y) with
  | true=>
   have hxy:=of_decide_eq_true hd
   refine List.pairwise_cons.2 ⟨fun z hz=>?_,h⟩
   rcases List.mem_cons.1 hz with rfl | hz
   ·exact hxy
   ·exact Int.le_trans hxy (h'.1 z hz)
  | false=>
   have hxy:=of_decide_eq_false hd
   refine List.pairwise_cons.2 ⟨fun z hz=>?_,ZmH x r h'.2⟩
   rcases List.mem_cons.1 ((Zl1 x r).mem_iff.1 hz) with rfl | hz
   ·omega
   ·exact h'.1 z hz
theorem ZkM:∀l:List Int,(sortI l).Perm l
 | []=>.refl _
 | x :: r=>(Zl1 x _).trans ((ZkM r).cons x)
theorem ZiE:∀l:List Int,(sortI l).Pairwise (· ≤ ·)
 | []=>.nil
 | x :: r=>ZmH x _ (ZiE r)
theorem Zrx (l:List Int):l.mergeSort (fun x y=>decide (x≤y))=sortI l:=by
 have h1:(l.mergeSort (fun x y=>decide (x≤y))).Pairwise (· ≤ ·):=by
  have:=List.pairwise_mergeSort (le:=fun x y:Int=>decide (x≤y)) (fun a b c h1 h2=>by simp only[decide_eq_true_eq] at *;omega) (fun a b=>by simp only[Bool.or_eq_true,decide_eq_true_eq];omega) l
  exact this.imp fun h=>of_decide_eq_true h
 exact((List.mergeSort_perm l _).trans (ZkM l).symm).eq_of_pairwise (le:=(· ≤ ·)) (fun a b _ _ h1 h2=>Int.le_antisymm h1 h2) h1 (ZiE l)
theorem ZAY:Zrm Tryz.prog 110 where
 nil p cap w:=Any.slices_Sort_int_none Zse p cap w
 all zs c cs el cap w hl hc hcs:=by
  have hcl:c<w.heap.size:=(Array.getElem?_eq_some_iff.1 hc).1
  have hH:Holds (Value.int .i64) w c 0 zs.toArray:=fun j hj=>by
   have hj':j<zs.length:=by simpa using hj
   refine⟨?_,by simp[World.frozen?,hc]⟩
   simp only[World.cell?,hc,Nat.zero_add]
   have:=hcs j zs[j] (List.getElem?_eq_getElem hj')
   simp[this,hj']
  refine(Any.slices_Sort_int Zse c 0 cap zs w hH hcl (Nat.lt_of_le_of_lt hl (by decide))).mono ?_
  rintro e w' ⟨rfl,n,os,rfl⟩
  rw[Zrx]
  have hget:∀b,(putRow (Value.int .i64) (Go.Sort.ahead w n) c 0 (sortI zs).toArray).heap[b]? = if c=b then (w.heap[b]?).map (onCells (putCells (Value.int .i64) 0 (sortI zs).toArray)) else w.heap[b]?:=fun b=>by
   show(w.heap.modify c _)[b]? = _
   rw[Array.getElem?_modify]
  have hsz:(putRow (Value.int .i64) (Go.Sort.ahead w n) c 0 (sortI zs).toArray).heap.size=w.heap.size:=by
   show(w.heap.modify c _).size=_
   simp
  refine⟨rfl,putRow (Value.int .i64) (Go.Sort.ahead w n) c 0 (sortI zs).toArray,putCells (Value.int .i64) 0 (sortI zs).toArray cs,?_,?_,?_,?_,hsz,rfl,rfl,rfl,?_,?_,rfl,rfl,rfl⟩
  ·rw[hget,if_pos rfl,hc];rfl
  ·simp[putCells]
  ·intro j x hj
   have hjl:j<(sortI zs).length:=(List.getElem?_eq_some_iff.1 hj).1
   have hx:(sortI zs)[j]=x:=(List.getElem?_eq_some_iff.1 hj).2
   have hjz:j<zs.length:=by rw[← Zl3 zs];exact hjl
   have h1:=hcs j zs[j] (List.getElem?_eq_getElem hjz)
   simp only[putCells,Array.getElem?_mapIdx,h1,Option.map_some]
   simp[hjl,hx]
  ·intro c' hne
   rw[hget,if_neg (fun h=>hne h.symm)]
  ·intro b hb
   exact heap_grow_old _ _ hb
  ·show _≤((putRow (Value.int .i64) (Go.Sort.ahead w n) c 0 (sortI zs).toArray).heap++os).size
   simp
open Go Go.Proofs.YtgcfmiajkbbmeaaGreatE
theorem ok7 (G:Zl):ZM Tryz.prog G (fun N=>Zq Tryz.prog G N) 7 fn7=true:=by kernel_rfl
theorem ok9 (G:Zl):ZM Tryz.prog G (fun N=>Zq Tryz.prog G N) 9 fn9=true:=by kernel_rfl
theorem ZEM (G:Zl):ZM Tryz.prog G (fun N=>Zq Tryz.prog G N) 11 ZCU=true:=by kernel_rfl
theorem ZEW (G:Zl):ZM Tryz.prog G (fun N=>Zq Tryz.prog G N) 12 ZzO=true:=by kernel_rfl
theorem ZEk (G:Zl):ZM Tryz.prog G (fun N=>Zq Tryz.prog G N) 14 ZAy=true:=by kernel_rfl
theorem ZEf (G:Zl):ZM Tryz.prog G (fun N=>Zq Tryz.prog G N) 17 ZDh=true:=by kernel_rfl
theorem ZER (G:Zl):ZM Tryz.prog G (fun N=>Zq Tryz.prog G N) 18 ZC7=true:=by kernel_rfl
theorem ZDt (G:Zl):ZM Tryz.prog G (fun N=>Zq Tryz.prog G N) 19 Zzm=true:=by kernel_rfl
theorem ZE3 (G:Zl):ZM Tryz.prog G (fun N=>Zq Tryz.prog G N) 20 ZzT=true:=by kernel_rfl
theorem ZDu (G:Zl):ZM Tryz.prog G (fun N=>Zq Tryz.prog G N) 22 Zz2=true:=by kernel_rfl
theorem ZE1 (G:Zl):ZM Tryz.prog G (fun N=>Zq Tryz.prog G N) 25 ZAo=true:=by kernel_rfl
theorem ZDY (G:Zl):ZM Tryz.prog G (fun N=>Zq Tryz.prog G N) 27 Zzp=true:=by kernel_rfl
theorem ZDP (G:Zl):ZM Tryz.prog G (fun N=>Zq Tryz.prog G N) 28 ZzK=true:=by kernel_rfl
theorem ZEa (G:Zl):ZM Tryz.prog G (fun N=>Zq Tryz.prog G N) 29 ZzL=true:=by kernel_rfl
theorem ZDv (G:Zl):ZM Tryz.prog G (fun N=>Zq Tryz.prog G N) 30 ZzA=true:=by kernel_rfl
theorem ZE0 (G:Zl):ZM Tryz.prog G (fun N=>Zq Tryz.prog G N) 33 ZCS=true:=by kernel_rfl
theorem ZDR (G:Zl):ZM Tryz.prog G (fun N=>Zq Tryz.prog G N) 34 ZzI=true:=by kernel_rfl
theorem ZDL (G:Zl):ZM Tryz.prog G (fun N=>Zq Tryz.prog G N) 36 ZAs=true:=by kernel_rfl
theorem ZEu (G:Zl):ZM Tryz.prog G (fun N=>Zq Tryz.prog G N) 39 Zzl=true:=by kernel_rfl
theorem ZDn (G:Zl):ZM Tryz.prog G (fun N=>Zq Tryz.prog G N) 40 Zzn=true:=by kernel_rfl
theorem ZDJ (G:Zl):ZM Tryz.prog G (fun N=>Zq Tryz.prog G N) 41 ZzY=true:=by kernel_rfl
theorem ZEy (G:Zl):ZM Tryz.prog G (fun N=>Zq Tryz.prog G N) 42 ZAF=true:=by kernel_rfl
theorem ZEY (G:Zl):ZM Tryz.prog G (fun N=>Zq Tryz.prog G N) 43 Zz6=true:=by kernel_rfl
theorem ZDo (G:Zl):ZM Tryz.prog G (fun N=>Zq Tryz.prog G N) 45 Zz1=true:=by kernel_rfl
theorem ZEV (G:Zl):ZM Tryz.prog G (fun N=>Zq Tryz.prog G N) 52 ZyZ=true:=by kernel_rfl
theorem ZDS (G:Zl):ZM Tryz.prog G (fun N=>Zq Tryz.prog G N) 53 ZAC=true:=by kernel_rfl
theorem ZD4 (G:Zl):ZM Tryz.prog G (fun N=>Zq Tryz.prog G N) 54 ZzR=true:=by kernel_rfl
theorem ZEQ (G:Zl):ZM Tryz.prog G (fun N=>Zq Tryz.prog G N) 55 ZzH=true:=by kernel_rfl
theorem ZEL (G:Zl):ZM Tryz.prog G (fun N=>Zq Tryz.prog G N) 56 ZzZ=true:=by kernel_rfl
theorem ZEB (G:Zl):ZM Tryz.prog G (fun N=>Zq Tryz.prog G N) 59 Zzw=true:=by kernel_rfl
theorem ZDW (G:Zl):ZM Tryz.prog G (fun N=>Zq Tryz.prog G N) 60 ZAL=true:=by kernel_rfl
theorem ZEC (G:Zl):ZM Tryz.prog G (fun N=>Zq Tryz.prog G N) 61 ZB0=true:=by kernel_rfl
theorem ZEb (G:Zl):ZM Tryz.prog G (fun N=>Zq Tryz.prog G N) 66 Zu4=true:=by kernel_rfl
theorem ZEP (G:Zl):ZM Tryz.prog G (fun N=>Zq Tryz.prog G N) 67 ZzM=true:=by kernel_rfl
theorem ZEz (G:Zl):ZM Tryz.prog G (fun N=>Zq Tryz.prog G N) 68 Zzq=true:=by kernel_rfl
theorem ZEA (G:Zl):ZM Tryz.prog G (fun N=>Zq Tryz.prog G N) 69 ZAr=true:=by kernel_rfl
theorem ZDV (G:Zl):ZM Tryz.prog G (fun N=>Zq Tryz.prog G N) 70 ZAj=true:=by kernel_rfl
theorem ZE2 (G:Zl):ZM Tryz.prog G (fun N=>Zq Tryz.prog G N) 71 Zz5=true:=by kernel_rfl
theorem ZES (G:Zl):ZM Tryz.prog G (fun N=>Zq Tryz.prog G N) 83 ZzB=true:=by kernel_rfl
theorem ZEi (G:Zl):ZM Tryz.prog G (fun N=>Zq Tryz.prog G N) 84 ZAd=true:=by kernel_rfl
theorem ZDN (G:Zl):ZM Tryz.prog G (fun N=>Zq Tryz.prog G N) 85 Zzt=true:=by kernel_rfl
theorem ZEK (G:Zl):ZM Tryz.prog G (fun N=>Zq Tryz.prog G N) 86 ZAe=true:=by kernel_rfl
theorem ZDr (G:Zl):ZM Tryz.prog G (fun N=>Zq Tryz.prog G N) 87 Zz8=true:=by kernel_rfl
theorem ZD0 (G:Zl):ZM Tryz.prog G (fun N=>Zq Tryz.prog G N) 88 Zz7=true:=by kernel_rfl
theorem ZDy (G:Zl):ZM Tryz.prog G (fun N=>Zq Tryz.prog G N) 89 Zyx=true:=by kernel_rfl
theorem ZEp (G:Zl):ZM Tryz.prog G (fun N=>Zq Tryz.prog G N) 90 ZAn=true:=by kernel_rfl
theorem ZDZ (G:Zl):ZM Tryz.prog G (fun N=>Zq Tryz.prog G N) 91 ZzU=true:=by kernel_rfl
theorem ZEX (G:Zl):ZM Tryz.prog G (fun N=>Zq Tryz.prog G N) 92 Zzo=true:=by kernel_rfl
theorem ZDK (G:Zl):ZM Tryz.prog G (fun N=>Zq Tryz.prog G N) 94 ZAk=true:=by kernel_rfl
theorem ZDD (G:Zl):ZM Tryz.prog G (fun N=>Zq Tryz.prog G N) 95 ZCj=true:=by kernel_rfl
theorem ZDs (G:Zl):ZM Tryz.prog G (fun N=>Zq Tryz.prog G N) 96 ZBr=true:=by kernel_rfl
theorem ZEs (G:Zl):ZM Tryz.prog G (fun N=>Zq Tryz.prog G N) 97 ZCc=true:=by kernel_rfl
theorem ZEJ (G:Zl):ZM Tryz.prog G (fun N=>Zq Tryz.prog G N) 98 ZCQ=true:=by kernel_rfl
theorem ZEv (G:Zl):ZM Tryz.prog G (fun N=>Zq Tryz.prog G N) 99 ZsG=true:=by kernel_rfl
theorem ZA8 (G:Zl):ZM Tryz.prog G (fun N=>Zq Tryz.prog G N) 100 Zxy=true:=by kernel_rfl
theorem ZB8 (G:Zl):ZM Tryz.prog G (fun N=>Zq Tryz.prog G N) 108 Zwl=true:=by kernel_rfl
theorem ZCu (G:Zl):ZM Tryz.prog G (fun N=>Zq Tryz.prog G N) 109 Zt5=true:=by kernel_rfl
theorem ZBH (G:Zl):ZM Tryz.prog G (fun N=>Zq Tryz.prog G N) 159 ZxZ=true:=by kernel_rfl
theorem ZBs (G:Zl):ZM Tryz.prog G (fun N=>Zq Tryz.prog G N) 160 Zzj=true:=by kernel_rfl
theorem ZCO (G:Zl):ZM Tryz.prog G (fun N=>Zq Tryz.prog G N) 161 ZvU=true:=by kernel_rfl
theorem ZAX (G:Zl):ZM Tryz.prog G (fun N=>Zq Tryz.prog G N) 162 ZxL=true:=by kernel_rfl
theorem ZB6 (G:Zl):ZM Tryz.prog G (fun N=>Zq Tryz.prog G N) 163 ZxN=true:=by kernel_rfl
theorem ZC9 (G:Zl):ZM Tryz.prog G (fun N=>Zq Tryz.prog G N) 164 Zx1=true:=by kernel_rfl
theorem ZCq (G:Zl):ZM Tryz.prog G (fun N=>Zq Tryz.prog G N) 165 Zv6=true:=by kernel_rfl
theorem ZCX (G:Zl):ZM Tryz.prog G (fun N=>Zq Tryz.prog G N) 166 Zwe=true:=by kernel_rfl
theorem ZC4 (G:Zl):ZM Tryz.prog G (fun N=>Zq Tryz.prog G N) 167 ZvL=true:=by kernel_rfl
theorem ZDk (G:Zl):ZM Tryz.prog G (fun N=>Zq Tryz.prog G N) 168 ZxC=true:=by kernel_rfl
theorem ZBf (G:Zl):ZM Tryz.prog G (fun N=>Zq Tryz.prog G N) 169 ZwM=true:=by kernel_rfl
theorem ZBn (G:Zl):ZM Tryz.prog G (fun N=>Zq Tryz.prog G N) 170 Zws=true:=by kernel_rfl
theorem ZBL (G:Zl):ZM Tryz.prog G (fun N=>Zq Tryz.prog G N) 171 Zwk=true:=by kernel_rfl
theorem ZCW (G:Zl):ZM Tryz.prog G (fun N=>Zq Tryz.prog G N) 172 Zwp=true:=by kernel_rfl
theorem ZBg (G:Zl):ZM Tryz.prog G (fun N=>Zq Tryz.prog G N) 173 ZxH=true:=by kernel_rfl
theorem ZCm (G:Zl):ZM Tryz.prog G (fun N=>Zq Tryz.prog G N) 174 Zxm=true:=by kernel_rfl
theorem ZBc (G:Zl):ZM Tryz.prog G (fun N=>Zq Tryz.prog G N) 175 Zxv=true:=by kernel_rfl
theorem ZA9 (G:Zl):ZM Tryz.prog G (fun N=>Zq Tryz.prog G N) 176 ZvX=true:=by kernel_rfl
theorem ZCT (G:Zl):ZM Tryz.prog G (fun N=>Zq Tryz.prog G N) 177 ZvG=true:=by kernel_rfl
theorem ZCh (G:Zl):ZM Tryz.prog G (fun N=>Zq Tryz.prog G N) 178 Zxd=true:=by kernel_rfl
theorem ZBC (G:Zl):ZM Tryz.prog G (fun N=>Zq Tryz.prog G N) 179 ZxU=true:=by kernel_rfl
theorem ZCF (G:Zl):ZM Tryz.prog G (fun N=>Zq Tryz.prog G N) 180 ZvW=true:=by kernel_rfl
theorem ZBi (G:Zl):ZM Tryz.prog G (fun N=>Zq Tryz.prog G N) 181 Zx5=true:=by kernel_rfl
theorem ZBe (G:Zl):ZM Tryz.prog G (fun N=>Zq Tryz.prog G N) 182 Zxh=true:=by kernel_rfl
theorem ZAM (G:Zl):ZM Tryz.prog G (fun N=>Zq Tryz.prog G N) 183 ZxD=true:=by kernel_rfl
theorem ZBU (G:Zl):ZM Tryz.prog G (fun N=>Zq Tryz.prog G N) 184 ZvC=true:=by kernel_rfl
theorem ZBY (G:Zl):ZM Tryz.prog G (fun N=>Zq Tryz.prog G N) 185 ZxB=true:=by kernel_rfl
theorem ZBt (G:Zl):ZM Tryz.prog G (fun N=>Zq Tryz.prog G N) 186 Zwf=true:=by kernel_rfl
theorem ZA3 (G:Zl):ZM Tryz.prog G (fun N=>Zq Tryz.prog G N) 187 ZvD=true:=by kernel_rfl
theorem ZCe (G:Zl):ZM Tryz.prog G (fun N=>Zq Tryz.prog G N) 188 Zxs=true:=by kernel_rfl
theorem ZB7 (G:Zl):ZM Tryz.prog G (fun N=>Zq Tryz.prog G N) 189 ZwO=true:=by kernel_rfl
theorem ZBO (G:Zl):ZM Tryz.prog G (fun N=>Zq Tryz.prog G N) 190 ZwY=true:=by kernel_rfl
theorem ZBD (G:Zl):ZM Tryz.prog G (fun N=>Zq Tryz.prog G N) 191 ZxG=true:=by kernel_rfl
theorem ZA0 (G:Zl):ZM Tryz.prog G (fun N=>Zq Tryz.prog G N) 192 Zvz=true:=by kernel_rfl
theorem ZCn (G:Zl):ZM Tryz.prog G (fun N=>Zq Tryz.prog G N) 193 Zwh=true:=by kernel_rfl
theorem ZBv (G:Zl):ZM Tryz.prog G (fun N=>Zq Tryz.prog G N) 194 Zv0=true:=by kernel_rfl
theorem ZAN (G:Zl):ZM Tryz.prog G (fun N=>Zq Tryz.prog G N) 195 Zw8=true:=by kernel_rfl
theorem ZC3 (G:Zl):ZM Tryz.prog G (fun N=>Zq Tryz.prog G N) 196 Zwt=true:=by kernel_rfl
theorem ZBM (G:Zl):ZM Tryz.prog G (fun N=>Zq Tryz.prog G N) 197 Zwv=true:=by kernel_rfl
theorem ZCL (G:Zl):ZM Tryz.prog G (fun N=>Zq Tryz.prog G N) 198 ZxR=true:=by kernel_rfl
theorem ZC8 (G:Zl):ZM Tryz.prog G (fun N=>Zq Tryz.prog G N) 199 ZwF=true:=by kernel_rfl
theorem ZAW (G:Zl):ZM Tryz.prog G (fun N=>Zq Tryz.prog G N) 200 Zxr=true:=by kernel_rfl
theorem ZAS (G:Zl):ZM Tryz.prog G (fun N=>Zq Tryz.prog G N) 201 Zw1=true:=by kernel_rfl
theorem ZBz (G:Zl):ZM Tryz.prog G (fun N=>Zq Tryz.prog G N) 202 Zwj=true:=by kernel_rfl
theorem ZBT (G:Zl):ZM Tryz.prog G (fun N=>Zq Tryz.prog G N) 203 ZxX=true:=by kernel_rfl
theorem ZBb (G:Zl):ZM Tryz.prog G (fun N=>Zq Tryz.prog G N) 204 Zy6=true:=by kernel_rfl
theorem ZCG (G:Zl):ZM Tryz.prog G (fun N=>Zq Tryz.prog G N) 205 ZxM=true:=by kernel_rfl
theorem ZC6 (G:Zl):ZM Tryz.prog G (fun N=>Zq Tryz.prog G N) 208 Zv1=true:=by kernel_rfl
theorem ZBl (G:Zl):ZM Tryz.prog G (fun N=>Zq Tryz.prog G N) 209 Zxj=true:=by kernel_rfl
theorem ZCz (G:Zl):ZM Tryz.prog G (fun N=>Zq Tryz.prog G N) 210 ZxW=true:=by kernel_rfl
theorem ZAK (G:Zl):ZM Tryz.prog G (fun N=>Zq Tryz.prog G N) 211 ZwR=true:=by kernel_rfl
theorem ZCN (G:Zl):ZM Tryz.prog G (fun N=>Zq Tryz.prog G N) 212 Zxg=true:=by kernel_rfl
theorem ZAO (G:Zl):ZM Tryz.prog G (fun N=>Zq Tryz.prog G N) 213 Zxl=true:=by kernel_rfl
theorem ZBE (G:Zl):ZM Tryz.prog G (fun N=>Zq Tryz.prog G N) 214 ZwX=true:=by kernel_rfl
theorem ZCP (G:Zl):ZM Tryz.prog G (fun N=>Zq Tryz.prog G N) 215 ZwD=true:=by kernel_rfl
theorem ZCd (G:Zl):ZM Tryz.prog G (fun N=>Zq Tryz.prog G N) 216 Zy8=true:=by kernel_rfl
theorem ZBB (G:Zl):ZM Tryz.prog G (fun N=>Zq Tryz.prog G N) 217 ZvI=true:=by kernel_rfl
theorem ZB9 (G:Zl):ZM Tryz.prog G (fun N=>Zq Tryz.prog G N) 218 Zxb=true:=by kernel_rfl
theorem ZBR (G:Zl):ZM Tryz.prog G (fun N=>Zq Tryz.prog G N) 219 ZxI=true:=by kernel_rfl
theorem ZB4 (G:Zl):ZM Tryz.prog G (fun N=>Zq Tryz.prog G N) 220 Zw4=true:=by kernel_rfl
theorem ZzV (G:Zl) (hG:ZnX G):∀f fn,code f=some fn→ZM Tryz.prog G (fun N=>Zq Tryz.prog G N) f fn=true∨Zmd Tryz.prog G f fn:=by
 intro f fn h
 unfold code at h
 split at h
 ·cases h;exact .inl (ok7 G)
 ·cases h;exact .inl (ok9 G)
 ·cases h;exact .inl (ZEM G)
 ·cases h;exact .inl (ZEW G)
 ·cases h;exact .inl (ZEk G)
 ·cases h;exact .inl (ZEf G)
 ·cases h;exact .inl (ZER G)
 ·cases h;exact .inl (ZDt G)
 ·cases h;exact .inl (ZE3 G)
 ·cases h;exact .inl (ZDu G)
 ·cases h;exact .inl (ZE1 G)
 ·cases h;exact .inl (ZDY G)
 ·cases h;exact .inl (ZDP G)
 ·cases h;exact .inl (ZEa G)
 ·cases h;exact .inl (ZDv G)
 ·cases h;exact .inl (ZE0 G)
 ·cases h;exact .inl (ZDR G)
 ·cases h;exact .inl (ZDL G)
 ·cases h;exact .inl (ZEu G)
 ·cases h;exact .inl (ZDn G)
 ·cases h;exact .inl (ZDJ G)
 ·cases h;exact .inl (ZEy G)
 ·cases h;exact .inl (ZEY G)
 ·cases h;exact .inl (ZDo G)
 ·cases h;exact .inl (ZEV G)
 ·cases h;exact .inl (ZDS G)
 ·cases h;exact .inl (ZD4 G)
 ·cases h;exact .inl (ZEQ G)
 ·cases h;exact .inl (ZEL G)
 ·cases h;exact .inl (ZEB G)
 ·cases h;exact .inl (ZDW G)
 ·cases h;exact .inl (ZEC G)
 ·cases h;exact .inl (ZEb G)
 ·cases h;exact .inl (ZEP G)
 ·cases h;exact .inl (ZEz G)
 ·cases h;exact .inl (ZEA G)
 ·cases h;exact .inl (ZDV G)
 ·cases h;exact .inl (ZE2 G)
 ·cases h;exact .inl (ZES G)
 ·cases h;exact .inl (ZEi G)
 ·cases h;exact .inl (ZDN G)
 ·cases h;exact .inl (ZEK G)
 ·cases h;exact .inl (ZDr G)
 ·cases h;exact .inl (ZD0 G)
 ·cases h;exact .inl (ZDy G)
 ·cases h;exact .inl (ZEp G)
 ·cases h;exact .inl (ZDZ G)
 ·cases h;exact .inl (ZEX G)
 ·cases h;exact .inl (ZDK G)
 ·cases h;exact .inl (ZDD G)
 ·cases h;exact .inl (ZDs G)
 ·cases h;exact .inl (ZEs G)
 ·cases h;exact .inl (ZEJ G)
 ·cases h;exact .inl (ZEv G)
 ·cases h;exact .inl (ZA8 G)
 ·cases h;exact .inl (ZB8 G)
 ·cases h;exact .inl (ZCu G)
 ·cases h;exact .inr (.inr (.inl ⟨by kernel_rfl,rfl,ZAY⟩))
 ·cases h;exact .inl (ZBH G)
 ·cases h;exact .inl (ZBs G)
 ·cases h;exact .inl (ZCO G)
 ·cases h;exact .inl (ZAX G)
 ·cases h;exact .inl (ZB6 G)
 ·cases h;exact .inl (ZC9 G)
 ·cases h;exact .inl (ZCq G)
 ·cases h;exact .inl (ZCX G)
 ·cases h;exact .inl (ZC4 G)
 ·cases h;exact .inl (ZDk G)
 ·cases h;exact .inl (ZBf G)
 ·cases h;exact .inl (ZBn G)
 ·cases h;exact .inl (ZBL G)
 ·cases h;exact .inl (ZCW G)
 ·cases h;exact .inl (ZBg G)
 ·cases h;exact .inl (ZCm G)
 ·cases h;exact .inl (ZBc G)
 ·cases h;exact .inl (ZA9 G)
 ·cases h;exact .inl (ZCT G)
 ·cases h;exact .inl (ZCh G)
 ·cases h;exact .inl (ZBC G)
 ·cases h;exact .inl (ZCF G)
 ·cases h;exact .inl (ZBi G)
 ·cases h;exact .inl (ZBe G)
 ·cases h;exact .inl (ZAM G)
 ·cases h;exact .inl (ZBU G)
 ·cases h;exact .inl (ZBY G)
 ·cases h;exact .inl (ZBt G)
 ·cases h;exact .inl (ZA3 G)
 ·cases h;exact .inl (ZCe G)
 ·cases h;exact .inl (ZB7 G)
 ·cases h;exact .inl (ZBO G)
 ·cases h;exact .inl (ZBD G)
 ·cases h;exact .inl (ZA0 G)
 ·cases h;exact .inl (ZCn G)
 ·cases h;exact .inl (ZBv G)
 ·cases h;exact .inl (ZAN G)
 ·cases h;exact .inl (ZC3 G)
 ·cases h;exact .inl (ZBM G)
 ·cases h;exact .inl (ZCL G)
 ·cases h;exact .inl (ZC8 G)
 ·cases h;exact .inl (ZAW G)
 ·cases h;exact .inl (ZAS G)
 ·cases h;exact .inl (ZBz G)
 ·cases h;exact .inl (ZBT G)
 ·cases h;exact .inl (ZBb G)
 ·cases h;exact .inl (ZCG G)
 ·cases h;exact .inr (.inr (.inr ⟨by kernel_rfl,rfl,ZyE hG⟩))
 ·cases h;exact .inl (ZC6 G)
 ·cases h;exact .inl (ZBl G)
 ·cases h;exact .inl (ZCz G)
 ·cases h;exact .inl (ZAK G)
 ·cases h;exact .inl (ZCN G)
 ·cases h;exact .inl (ZAO G)
 ·cases h;exact .inl (ZBE G)
 ·cases h;exact .inl (ZCP G)
 ·cases h;exact .inl (ZCd G)
 ·cases h;exact .inl (ZBB G)
 ·cases h;exact .inl (ZB9 G)
 ·cases h;exact .inl (ZBR G)
 ·cases h;exact .inl (ZB4 G)
 ·cases h
theorem ZB3 (G:Zl) (hG:ZnX G):∀f fn,ctx.code f=some fn→ZM Tryz.prog G (fun N=>Zq Tryz.prog G N) f fn=true∨Zmd Tryz.prog G f fn:=ZzV G hG
theorem ZCb (G:Zl) (hG:ZnX G):Zey Tryz.prog G (evW ctx):=ZvO (ZB3 G hG)
end Go.Proofs.YtgcfmiajkbbmeaaGreat
namespace Go.Proofs.YtgcfmiajkbbmeaaGreatE
open Go
open Go.IntKind (u64 i64 u32 i32 u8)
inductive Lf where
 | bool | int (k:IntKind) | str | sl (ag:Bool) (els:List Lf)
mutual
def ZyF:Lf→D→Prop
 | .bool,x=>∃b,x = .bool b
 | .int k,x=>∃n,x = .int k n∧(Lit.int k n).wf=true
 | .str,x=>∃s,x = .str s∧s.size≤maxLen
 | .sl ag els,x=>∃xs,x = .list true xs∧xs.length≤maxLen∧∀y∈xs,y.isAgg=ag∧Zee els y.cells
def Zee:List Lf→List D→Prop
 | [],ds=>ds=[]
 | l :: ls,ds=>∃d r,ds=d :: r∧ZyF l d∧Zee ls r
end
def Zis (P:Program) (g:TypeId→Option (List Lf×Bool)):Nat→List Field→Option (List Lf)
 | _,[]=>some []
 | off,f :: fs=>match g f.type with
  | some (l,_)=>(match Zis P g (off+l.length) fs with
   | some r=>bif Nat.beq f.offset off&&Nat.beq (P.cellsOf f.type) l.length then some (l++r) else none
   | none=>none)
  | none=>none
def lfs (P:Program):Nat→TypeId→Option (List Lf×Bool)
 | 0,_=>none
 | n+1,t=>match P.underlying t with
  | some .bool=>some ([.bool],false)
  | some (.int k)=>some ([.int k],false)
  | some .string=>some ([.str],false)
  | some (.slice e)=>(match lfs P n e with | some (l,ag)=>bif Nat.beq (P.cellsOf e) l.length&&Nat.blt 0 l.length then some ([.sl ag l],false) else none | none=>none)
  | some (.struct fs)=>(match Zis P (lfs P n) 0 fs.toList with | some l=>bif Nat.beq (P.cellsOf t) l.length then some (l,true) else none | none=>none)
  | _=>none
mutual
theorem Zsj:∀(l:Lf) (x:D),ZyF l x→x.esc=true∧x.isAgg=false∧x.cells=[x]
 | .bool,x,h=>by obtain⟨b,rfl⟩:=h;exact⟨rfl,rfl,rfl⟩
 | .int k,x,h=>by obtain⟨n,rfl,_⟩:=h;exact⟨rfl,rfl,rfl⟩
 | .str,x,h=>by obtain⟨s,rfl,_⟩:=h;exact⟨rfl,rfl,rfl⟩
 | .sl ag els,x,h=>by obtain⟨xs,rfl,_⟩:=h;exact⟨rfl,rfl,rfl⟩
theorem Zql:∀(ls:List Lf) (ds:List D),Zee ls ds→D.escs ds=true∧ds.length=ls.length
 | [],ds,h=>by obtain rfl:=h;exact⟨rfl,rfl⟩
 | l :: ls,ds,h=>by
  obtain⟨d,r,rfl,h1,h2⟩:=h
  obtain⟨e1,e2,_⟩:=Zsj l d h1
  obtain⟨e3,e4⟩:=Zql ls r h2
  exact⟨by simp[D.escs,e1,e2,e3],by simp[e4]⟩
end
theorem Zp6:∀(l r:List Lf) (ds es:List D),Zee l ds→Zee r es→Zee (l++r) (ds++es)
 | [],r,ds,es,h,k=>by obtain rfl:=h;exact k
 | a :: l,r,ds,es,h,k=>by
  obtain⟨d,ds',rfl,h1,h2⟩:=h
  exact⟨d,ds'++es,rfl,h1,Zp6 l r ds' es h2 k⟩
section
variable {H:Type} {enc:TypeId×Value→H} {P:Program} {W:World} {sp:Nat→Bool} {held:Bool}
abbrev All:Nat→Prop:=fun _=>True
theorem Zqb:∀(ds es:List D) (us vs:List Value),Z0 All All All W ds us→Z0 All All All W es vs→Z0 All All All W (ds++es) (us++vs)
 | [],es,us,vs,h,k=>by obtain rfl:=h;exact k
 | x :: ds,es,us,vs,h,k=>by
  obtain⟨u,us',rfl,h1,h2⟩:=h
  exact⟨u,us'++vs,rfl,h1,Zqb ds es us' vs h2 k⟩
theorem ZrU {a:Addr}{n:Nat}{cs:List Value} (h:W.cells? 0 a n=some cs):cs.length=n∧∀k,k<n→W.cell? (a.add k)=cs[k]?:=by
 unfold World.cells? at h
 rw[if_pos (Nat.zero_le _)] at h
 exact⟨by simpa using mapM_some_length h,fun k hk=>mapM_some_get h k k (by simp[hk])⟩
theorem ZpK {g:TypeId→Option (List Lf×Bool)}{m:Nat}{cs:List Value}
  (hg:∀t l ag cs x,g t=some (l,ag)→DataW.trod enc P W 0 sp held m t cs=some x→∃ds,Z0 All All All W ds cs∧Zee l ds) :
  ∀(fs:List Field) (off:Nat) (l:List Lf) (xs:List (DataW H×List MemPlace)),Zis P g off fs=some l→xs.length=fs.length→off+l.length≤cs.length →
   (∀(i:Nat) f,fs[i]? = some f→DataW.trod enc P W 0 sp held m f.type ((cs.drop f.offset).take (P.cellsOf f.type))=xs[i]?)→∃ds,Z0 All All All W ds ((cs.drop off).take l.length)∧Zee l ds
 | [],off,l,xs,h,_,_,_=>by
  simp only[Zis,Option.some.injEq] at h
  subst h
  exact⟨[],by simp[Z0],rfl⟩
 | f :: fs,off,l,xs,h,hl,hle,hx=>by
  simp only[Zis] at h
  cases hgf:g f.type with
  | none=>rw[hgf] at h;cases h
  | some q=>
   obtain⟨l1,ag⟩:=q
   rw[hgf] at h
   dsimp only at h
   cases hr:Zis P g (off+l1.length) fs with
   | none=>rw[hr] at h;cases h
   | some r=>
    rw[hr] at h
    dsimp only at h
    cases hc:(Nat.beq f.offset off&&Nat.beq (P.cellsOf f.type) l1.length) with
    | false=>rw[hc] at h;cases h
    | true=>
     rw[hc] at h
     simp only[cond_true,Option.some.injEq] at h
     subst h
     simp only[Bool.and_eq_true] at hc
     have h1:=Nat.eq_of_beq_eq_true hc.1
     have h2:=Nat.eq_of_beq_eq_true hc.2
     rw[List.length_append] at hle
     cases xs with
     | nil=>simp at hl
     | cons x xs=>
      have hx0:=hx 0 f rfl
      rw[h1,h2] at hx0
      simp only[List.getElem?_cons_zero] at hx0
      obtain⟨d1,e1,e2⟩:=hg f.type l1 ag _ x hgf hx0
      obtain⟨d2,e3,e4⟩:=ZpK (cs:=cs) hg fs (off+l1.length) r xs hr (by simpa using hl) (by omega) (fun i f' hf'=>by simpa using hx (i+1) f' (by simpa using hf'))
      refine⟨d1++d2,?_,Zp6 _ _ _ _ e2 e4⟩
      have hspl:(cs.drop off).take (l1++r).length=(cs.drop off).take l1.length++(cs.drop (off+l1.length)).take r.length:=by
       rw[List.length_append,List.take_add,List.drop_drop]
      rw[hspl]
      exact Zqb _ _ _ _ e1 e3
theorem ZoQ:∀(n:Nat) (t:TypeId) (l:List Lf) (ag:Bool),lfs P n t=some (l,ag)→∀(fuel:Nat) (cs:List Value) (x:DataW H×List MemPlace),DataW.trod enc P W 0 sp held fuel t cs=some x →
  ∃ds,Z0 All All All W ds cs∧Zee l ds∧(ag=false→∃u y,cs=[u]∧ds=[y]∧u.cells = #[u]∧y.isAgg=false)
 | 0,t,l,ag,h,fuel,cs,x,hx=>by cases h
 | n+1,t,l,ag,h,fuel,cs,x,hx=>by
  simp only[lfs] at h
  split at h
  ·rename_i ht
   cases h
   obtain⟨b,rfl,_⟩:=DataW.trod_bool ht hx
   exact⟨[.bool b],⟨_,_,rfl,rfl,rfl⟩,⟨_,_,rfl,⟨b,rfl⟩,rfl⟩,fun _=>⟨_,_,rfl,rfl,rfl,rfl⟩⟩
  ·rename_i k ht
   cases h
   obtain⟨m,rfl,_,hw⟩:=DataW.trod_int ht hx
   exact⟨[.int k m],⟨_,_,rfl,rfl,rfl⟩,⟨_,_,rfl,⟨m,rfl,hw⟩,rfl⟩,fun _=>⟨_,_,rfl,rfl,rfl,rfl⟩⟩
  ·rename_i ht
   cases h
   obtain⟨s,rfl,_,hs⟩:=DataW.trod_string ht hx
   exact⟨[.str s],⟨_,_,rfl,rfl,rfl⟩,⟨_,_,rfl,⟨s,rfl,hs⟩,rfl⟩,fun _=>⟨_,_,rfl,rfl,rfl,rfl⟩⟩
  ·rename_i e ht
   cases he:lfs P n e with
   | none=>rw[he] at h;cases h
   | some q=>
    obtain⟨le,age⟩:=q
    rw[he] at h
    dsimp only at h
    cases hc:(Nat.beq (P.cellsOf e) le.length&&Nat.blt 0 le.length) with
    | false=>rw[hc] at h;cases h
    | true=>
     rw[hc] at h
     simp only[cond_true,Option.some.injEq,Prod.mk.injEq] at h
     obtain⟨rfl,rfl⟩:=h
     simp only[Bool.and_eq_true] at hc
     have hsz:=Nat.eq_of_beq_eq_true hc.1
     have hpos:0<le.length:=by have:=hc.2;simp[Nat.blt] at this;omega
     rcases Go.Deep.open_slice ht hx with⟨rfl,_⟩ | ⟨a,len,cap,m,fu,Dd,Pl,rfl,_,hlc,hcap,hm,_,hel⟩
     ·exact⟨[.list true []],⟨_,_,rfl,⟨_,0,0,rfl,rfl,Nat.le_refl _,by simp,by simp⟩,rfl⟩,⟨_,_,rfl,⟨[],rfl,by simp,by simp⟩,rfl⟩,fun _=>⟨_,_,rfl,rfl,rfl,rfl⟩⟩
     ·rw[hsz] at hel
      have hlm:len≤m:=by rw[hm];split<;>omega
      have each:∀i,i<len→∃y u,Z3 All All All W y u∧y.isAgg=age∧Zee le y.cells∧u.cells.size=le.length∧(∀k v,u.cells[k]? = some v→W.cell? ((a.add (i*le.length)).add k)=some v)∧y.esc=true:=fun i hi=>by
       obtain⟨cs',h1,h2⟩:=hel i (by omega)
       obtain⟨c1,c2⟩:=ZrU h1
       obtain⟨ds,d1,d2,d3⟩:=ZoQ n e le age he fu cs' _ h2
       obtain⟨s1,s2⟩:=Zql _ _ d2
       cases age with
       | true=>
        refine⟨.agg ds,.agg cs'.toArray,⟨cs',rfl,d1⟩,rfl,d2,by simpa [Value.cells] using c1,fun k v hk=>?_,s1⟩
        have hk':cs'[k]? = some v:=by simpa [Value.cells] using hk
        rw[c2 k (by rw[← c1];exact(List.getElem?_eq_some_iff.1 hk').1)];exact hk'
       | false=>
        obtain⟨u,y,rfl,rfl,e1,e2⟩:=d3 rfl
        obtain⟨u',us',f1,f2,_⟩:=d1
        cases f1
        have hy:y.cells=[y]:=by
         cases y<;>first | rfl | (simp[D.isAgg] at e2)
        have hesc:y.esc=true:=by
         match le,d2,hpos with
         | l0 :: ls,d2,_=>
          obtain⟨d,r,g1,g2,_⟩:=d2
          cases g1
          exact(Zsj l0 y g2).1
        refine⟨y,u,f2,e2,by rw[hy];exact d2,by rw[e1,← c1];rfl,fun k v hk=>?_,hesc⟩
        rw[e1] at hk
        have hk0:k=0:=by
         have:=(Array.getElem?_eq_some_iff.1 hk).1;simp at this;exact this
        subst hk0
        simp at hk;subst hk
        rw[c2 0 (by omega)];rfl
      have all:∀j,j≤len→∃ys:List D,ys.length=j∧(∀y∈ys,y.isAgg=age∧Zee le y.cells∧y.esc=true)∧∀(i:Nat) y,ys[i]? = some y→∃u,Z3 All All All W y u∧u.cells.size=le.length∧∀k v,u.cells[k]? = some v→W.cell? ((a.add (i*le.length)).add k)=some v:=by
       intro j
       induction j with
       | zero=>intro _;exact⟨[],rfl,by simp,by simp⟩
       | succ j ih=>
        intro hj
        obtain⟨ys,y1,y2,y3⟩:=ih (by omega)
        obtain⟨y,u,z1,z2,z3,z4,z5,z6⟩:=each j (by omega)
        refine⟨ys++[y],by simp[y1],fun z hz=>?_,fun i z hz=>?_⟩
        ·rcases List.mem_append.1 hz with hz | hz
         ·exact y2 z hz
         ·simp at hz;subst hz;exact⟨z2,z3,z6⟩
        ·by_cases hi:i<ys.length
         ·rw[List.getElem?_append_left hi] at hz;exact y3 i z hz
         ·rw[List.getElem?_append_right (by omega)] at hz
          have hij:i-ys.length=0:=by
           have:=(List.getElem?_eq_some_iff.1 hz).1;simp at this;omega
          rw[hij] at hz
          simp at hz;subst hz
          have:i=j:=by omega
          subst this
          exact⟨u,z1,z4,z5⟩
      obtain⟨ys,y1,y2,y3⟩:=all len (Nat.le_refl _)
      refine⟨[.list true ys],⟨_,_,rfl,⟨_,len,cap,rfl,y1.symm,hlc,fun z hz=>(y2 z hz).2.2,fun hne=>?_⟩,rfl⟩,⟨_,_,rfl,⟨ys,rfl,by omega,fun z hz=>⟨(y2 z hz).1,(y2 z hz).2.1⟩⟩,rfl⟩,fun _=>⟨_,_,rfl,rfl,rfl,rfl⟩⟩
      have hlen:0<len:=by
       rw[← y1];exact List.length_pos_iff.2 hne
      obtain⟨cs0,h1,_⟩:=hel 0 (by omega)
      obtain⟨c1,c2⟩:=ZrU h1
      have c3:=c2 0 hpos
      have hcell:∃v,W.cell? a=some v:=by
       refine⟨cs0[0]'(by omega),?_⟩
       have e0:(a.add (0*le.length)).add 0=a:=by simp[Addr.add]
       rw[e0] at c3
       rw[c3];exact List.getElem?_eq_getElem (by omega)
      obtain⟨v,hv⟩:=hcell
      have hspot:a.spot=none∧a.block<W.heap.size:=by
       unfold World.cell? at hv
       split at hv
       ·rename_i hb
        cases hsx:a.spot with
        | none=>exact⟨rfl,(Array.getElem?_eq_some_iff.1 hb).1⟩
        | some z=>rw[hsx] at hv;simp at hv
       ·cases hv
      obtain⟨b,off,spot⟩:=a
      obtain⟨hs1,hs2⟩:=hspot
      simp only at hs1 hs2
      subst hs1
      refine⟨b,off,le.length,rfl,trivial,hs2,Zh2 ys off fun j y hj=>?_⟩
      obtain⟨u,u1,u2,u3⟩:=y3 j y hj
      refine⟨u,u1,u2,fun k v hk=>?_⟩
      rw[← u3 k v hk]
      congr 1
      unfold Addr.add
      by_cases hj0:j*le.length=0
      ·by_cases hk0:k=0<;>simp[hj0,hk0]
      ·by_cases hk0:k=0<;>simp[hj0,hk0]
  ·rename_i fs ht
   cases hf:Zis P (lfs P n) 0 fs.toList with
   | none=>rw[hf] at h;cases h
   | some l'=>
    rw[hf] at h
    dsimp only at h
    cases hc:Nat.beq (P.cellsOf t) l'.length with
    | false=>rw[hc] at h;cases h
    | true=>
     rw[hc] at h
     simp only[cond_true,Option.some.injEq,Prod.mk.injEq] at h
     obtain⟨rfl,rfl⟩:=h
     have hcl:=Nat.eq_of_beq_eq_true hc
     obtain⟨xs,m,_,_,hlen,hxl,hxs⟩:=DataW.trod_struct ht hx
     have hlen':cs.length=l'.length:=hlen.trans hcl
     obtain⟨ds,e1,e2⟩:=ZpK (m:=m) (cs:=cs) (g:=lfs P n) (fun t l ag cs x hg hx=>by
      obtain⟨ds,d1,d2,_⟩:=ZoQ n t l ag hg m cs x hx
      exact⟨ds,d1,d2⟩) fs.toList 0 l' xs hf (by simpa using hxl) (by omega) (fun i f hf'=>hxs i f (by simpa using hf'))
     refine⟨ds,?_,e2,fun h=>by cases h⟩
     have:(cs.drop 0).take l'.length=cs:=by rw[List.drop_zero,List.take_of_length_le (by omega)]
     rw[this] at e1;exact e1
  ·cases h
def Ziz (ag:Bool) (ds:List D):D:=match ag,ds with | true,ds=>.agg ds | false,d :: _=>d | false,[]=>.nilp
theorem Zn4 {n:Nat}{t:TypeId}{l:List Lf}{ag:Bool} (h:lfs P n t=some (l,ag)) {base:Nat}{v:Value}{d:DataW H}{ps:List MemPlace} (hv:Value.okWide P W .any base t v) (hx:DataW.Trod enc P W 0 sp held t v d ps) :
  ∃ds,Zee l ds∧Z3 All All All W (Ziz ag ds) v:=by
 obtain⟨fuel,hf⟩:=hx
 obtain⟨ds,d1,d2,d3⟩:=ZoQ n t l ag h fuel _ _ hf
 refine⟨ds,d2,?_⟩
 have one:ag=false→v.cells = #[v]→Z3 All All All W (Ziz ag ds) v:=fun hag hc=>by
  subst hag
  obtain⟨u,y,e1,rfl,_,_⟩:=d3 rfl
  rw[hc] at e1
  cases e1
  obtain⟨u',us',f1,f2,_⟩:=d1
  rw[hc] at f1
  cases f1
  exact f2
 cases n with
 | zero=>cases h
 | succ n=>
  simp only[lfs] at h
  split at h
  ·rename_i ht
   cases h
   obtain⟨b,rfl⟩:=Go.WideShapes.okWide_bool ht hv
   exact one rfl rfl
  ·rename_i k ht
   cases h
   obtain⟨b,rfl⟩:=Go.WideShapes.okWide_int ht hv
   exact one rfl rfl
  ·rename_i ht
   cases h
   obtain⟨b,rfl⟩:=Go.WideShapes.okWide_string ht hv
   exact one rfl rfl
  ·rename_i e ht
   obtain⟨a,len,cap,rfl⟩:=Go.WideShapes.okWide_slice ht hv
   split at h
   ·rename_i le age hq
    cases hc:(Nat.beq (P.cellsOf e) le.length&&Nat.blt 0 le.length) with
    | false=>rw[hc] at h;cases h
    | true=>rw[hc] at h;cases h;exact one rfl rfl
   ·cases h
  ·rename_i fs ht
   obtain⟨cs,rfl,_⟩:=Go.WideShapes.okWide_struct ht hv
   split at h
   ·rename_i q hq
    cases hc:Nat.beq (P.cellsOf t) q.length with
    | false=>rw[hc] at h;cases h
    | true=>
     rw[hc] at h
     cases h
     exact⟨cs.toList,by simp,by simpa [Value.cells] using d1⟩
   ·cases h
  ·cases h
end
end Go.Proofs.YtgcfmiajkbbmeaaGreatE
namespace Go.Proofs.YtgcfmiajkbbmeaaGreatE
open Go
open Go.IntKind (u64 i64 u32 i32 u8)
def R0:RP:={ B1:=fun _=>False,B0:=fun _=>False,M:=fun _=>none,H:=[] }
section
variable {P:Program} {G:Zl} {Γ:Ctx} {W:World}
theorem ZiR (c:Nat):¬R0.live c:=by
 rintro ⟨i,h,_⟩
 simp[R0,ZN,nth] at h
theorem ZAQ:R0.OK W where
 b01:=fun c h=>h.elim
 al:=fun i blk h=>by simp[R0] at h
 inj:=fun i j c h=>by simp[R0,ZN,nth] at h
 lt:=fun i c h=>by cases h
 blk:=fun i m blk h=>by simp[R0] at h
 nb:=fun i c h=>by simp[R0,ZN,nth] at h
 bl:=fun c h=>h.elim
theorem ZzQ {x:D}{u:Value} (h:Z3 All All All W x u):R0.den W x u:=
 Z3.change _ _ _ _ (fun b _ _=>⟨ZiR b,fun h=>h⟩) (fun b _ _=>⟨ZiR b,fun h=>h⟩) (fun b _ _=>ZiR b) (fun _ _ _=>rfl) (Nat.le_refl _) (fun _ _=>trivial) (fun _ _=>trivial) x u h
theorem Zys {xs:List D}{us:List Value} (h:Z0 All All All W xs us):ZU R0 W (Za0 xs) us:=
 (Zbs xs us).2 (Z0.change _ _ _ _ (fun b _ _=>⟨ZiR b,fun h=>h⟩) (fun b _ _=>⟨ZiR b,fun h=>h⟩) (fun b _ _=>ZiR b) (fun _ _ _=>rfl) (Nat.le_refl _) (fun _ _=>trivial) (fun _ _=>trivial) xs us h)
theorem Zvm (hs:Zey P G (evW Γ)) (hg:GOK G R0 W) {f:Nat}{xs:List D}{us:List Value} (hd:Z0 All All All W xs us) {H':Zd} (he:evW Γ f (Za0 xs) []=some (.d (.bool true),H')) :
  Calls P f us.toArray W fun e W'=>e = .returned (.bool true)∧Go.RowKit.Below W.heap.size W W':=by
 obtain⟨_,h⟩:=hs f (Za0 xs) [] _ _ he
 refine(h R0 W us ZAQ hg rfl (fun i _=>rfl) (Zys hd)).mono fun e W' ⟨u,h1,R',x,ok,hH,hv,_,_⟩=>?_
 have hu:u = .bool true:=hv
 subst hu
 exact⟨h1,⟨x.os,x.tape,x.output,x.grow,fun k hk=>x.same k hk (ZiR k)⟩⟩
end
end Go.Proofs.YtgcfmiajkbbmeaaGreatE
namespace Go.Proofs.YtgcfmiajkbbmeaaGreatE
open Go
open Go.IntKind (u64 i64 u32 i32 u8)
noncomputable def bnd {α β:Type} (x:Option α) (k:α→Option β):Option β:=@dite _ (∃a,x=some a) (Classical.propDecidable _) (fun h=>k (Classical.choose h)) fun _=>none
theorem Zdq {α β:Type} (x:Option α) (k:α→Option β):bnd x k=(match x with | some a=>k a | none=>none):=by
  unfold bnd
  cases x with
  | none=>exact dif_neg (fun⟨a,h⟩=>by cases h)
  | some a=>
    have h:∃b,some a=some b:=⟨a,rfl⟩
    rw[dif_pos h]
    have:=Classical.choose_spec h
    rw[← Option.some.inj this]
theorem Zi5 {α β:Type} (a:α) (k:α→Option β):bnd (some a) k=k a:=Zdq _ _
section
variable {β:Type}
def ZDz:List Nat:=[0,1,2,3,4,5,6,7,8,9,10,11,12,13,14,15,16,17,18,19,20,21,22,23,24,25,26,27,28,29,30,31,32,33,34,35,36,37,38,39,40,41,42,43,44,45,46,47,48,49,50,51,52,53,54,55,56,57,58,59,60,61,62,63]
def fgo (n:Nat) (k:Nat→Option β):List Nat→Option β
  | []=>k n
  | a :: l=>match Nat.beq n a with | true=>k a | false=>fgo n k l
def ZbW (n:Nat) (k:Nat→Option β):Option β:=fgo n k ZDz
def Zhq (v:V) (k:V→Option β):Option β:=
  match v with
  | .d x=>k (.d x) | .bad=>k .bad | .ptr b o=>ZbW b fun b=>ZbW o fun o=>k (.ptr b o) | .eptr b sz i j=>ZbW b fun b=>ZbW j fun j=>k (.eptr b sz i j)
  | .sl b sz=>ZbW b fun b=>k (.sl b sz) | .slp b sz o l=>ZbW b fun b=>k (.slp b sz o l) | .nilsl sz=>k (.nilsl sz)
  | .agg cs=>k (.agg cs) | .tup cs=>k (.tup cs) | .fn f cs=>k (.fn f cs) | .mp b=>ZbW b fun b=>k (.mp b)
def Zia (l:List V) (k:List V→Option β):Option β:=
  match l with
  | []=>k []
  | v :: vs=>Zhq v fun v=>Zia vs fun vs=>k (v :: vs)
def Zqy (v:V) (k:V→Option β):Option β:=
  match v with
  | .d x=>k (.d x) | .bad=>k .bad | .ptr b o=>Zhq (.ptr b o) k | .eptr b sz i j=>Zhq (.eptr b sz i j) k
  | .sl b sz=>Zhq (.sl b sz) k | .slp b sz o l=>Zhq (.slp b sz o l) k | .nilsl sz=>k (.nilsl sz)
  | .agg cs=>Zia cs fun cs=>k (.agg cs) | .tup cs=>Zia cs fun cs=>k (.tup cs) | .fn f cs=>Zia cs fun cs=>k (.fn f cs) | .mp b=>Zhq (.mp b) k
def Zhd (l:List V) (k:List V→Option β):Option β:=
  match l with
  | []=>k []
  | v :: vs=>Zqy v fun v=>Zhd vs fun vs=>k (v :: vs)
def ZsK (b:Blk) (k:Blk→Option β):Option β:=
  match b with
  | .dead=>k .dead | .cells cs=>Zhd cs fun cs=>k (.cells cs) | .arr sz xs=>k (.arr sz xs) | .mp es=>k (.mp es)
def Zjf (H:Zd) (k:Zd→Option β):Option β:=
  match H with
  | []=>k []
  | b :: bs=>ZsK b fun b=>Zjf bs fun bs=>k (b :: bs)
theorem Zxk (n:Nat) (k:Nat→Option β):∀(l:List Nat),fgo n k l=k n
  | []=>rfl
  | a :: l=>by
    unfold fgo
    cases h:Nat.beq n a with
    | true=>rw[Nat.eq_of_beq_eq_true h]
    | false=>exact Zxk n k l
theorem Zcn (n:Nat) (k:Nat→Option β):ZbW n k=k n:=Zxk n k _
theorem ZnN (v:V) (k:V→Option β):Zhq v k=k v:=by cases v<;>simp[Zhq,Zcn]
theorem ZmU:∀(l:List V) (k:List V→Option β),Zia l k=k l
  | [],k=>rfl
  | v :: vs,k=>by unfold Zia;rw[ZnN,ZmU vs]
theorem Zqx (v:V) (k:V→Option β):Zqy v k=k v:=by cases v<;>simp[Zqy,ZnN,ZmU]
theorem ZgO:∀(l:List V) (k:List V→Option β),Zhd l k=k l
  | [],k=>rfl
  | v :: vs,k=>by unfold Zhd;rw[Zqx,ZgO vs]
theorem Zvj (b:Blk) (k:Blk→Option β):ZsK b k=k b:=by cases b<;>simp[ZsK,ZgO]
theorem Zh6:∀(l:Zd) (k:Zd→Option β),Zjf l k=k l
  | [],k=>rfl
  | v :: vs,k=>by unfold Zjf;rw[Zvj,Zh6 vs]
def Ziq (l:List Nat) (k:List Nat→Option β):Option β:=
  match l with
  | []=>k []
  | a :: l=>ZbW a fun a=>Ziq l fun l=>k (a :: l)
theorem Zio:∀(l:List Nat) (k:List Nat→Option β),Ziq l k=k l
  | [],k=>rfl
  | a :: l,k=>by unfold Ziq;rw[Zcn,Zio l]
def ZjT (H:Zd) (l:List Nat) (bs:List Nat) (k:List Nat→Option β):Option β:=
  match bs with
  | []=>k l
  | b :: bs=>(match Zgi l b || !(ZN H b) with
    | true=>ZjT H l bs k
    | false=>Ziq (l++[b]) fun l=>ZjT H l bs k)
theorem Zip (H:Zd):∀(bs l:List Nat) (k:List Nat→Option β),ZjT H l bs k=k (Zez H l bs)
  | [],l,k=>rfl
  | b :: bs,l,k=>by
    unfold ZjT Zez
    cases h:(Zgi l b || !(ZN H b)) with
    | true=>exact Zip H bs l k
    | false=>simp only[Zio,cond_false];exact Zip H bs _ k
def ZqV (H:Zd) (n i:Nat) (l:List Nat) (k:List Nat→Option β):Option β:=
  match n with
  | 0=>k l
  | n+1=>(match nth l i with
    | some b=>Ziq (Zuh H b) fun bs=>ZjT H l bs fun l=>ZbW (i+1) fun i=>ZqV H n i l k
    | none=>k l)
theorem ZpW (H:Zd):∀(n i:Nat) (l:List Nat) (k:List Nat→Option β),ZqV H n i l k=k (Zjx H n i l)
  | 0,i,l,k=>rfl
  | n+1,i,l,k=>by
    unfold ZqV Zjx
    cases h:nth l i with
    | none=>rfl
    | some b=>simp only[Zio,Zcn,Zip];exact ZpW H n (i+1) _ k
def Zdw (m:Nat) (vs:List V) (H:Zd) (k:List Nat→List V→Zd→Option β):Option β:=
  Zhd vs fun vs=>Ziq (Zk6 m) fun u=>Ziq (ZgG vs) fun r=>ZjT H u r fun l=>ZqV H (H.length+1) 0 l fun L=>
    (match ZkZ L&&Zpa H.length L with
    | true=>Zhd (ZgL (fun b=>idx L b 0) vs) fun vs=>Zjf (pick H (fun b=>idx L b 0) L) fun H=>k L vs H
    | false=>none)
theorem ZbH (m:Nat) (vs:List V) (H:Zd) (k:List Nat→List V→Zd→Option β):Zdw m vs H k=(match extract m vs H with | some (L,vs,H)=>k L vs H | none=>none):=by
  unfold Zdw extract Zln
  simp only[ZgO,Zio,Zip,ZpW,Zh6]
  cases (ZkZ (Zjx H (H.length+1) 0 (Zez H (Zk6 m) (ZgG vs)))&&Zpa H.length (Zjx H (H.length+1) 0 (Zez H (Zk6 m) (ZgG vs))))<;>rfl
def Zkp (n:Nat) (vs:List V) (k:List V→List Blk→Option β):Option β:=
  match vs with
  | []=>k [] []
  | v :: vs=>(match v with
    | .nilsl sz=>(match Nat.blt 0 sz with
      | true=>ZbW (n+1) fun n1=>Zkp n1 vs fun vs bs=>k (.sl n sz :: vs) (.arr sz [] :: bs)
      | false=>Zkp n vs fun vs bs=>k (.nilsl sz :: vs) bs)
    | v=>Zkp n vs fun vs bs=>k (v :: vs) bs)
theorem ZhF:∀(vs:List V) (n:Nat) (k:List V→List Blk→Option β),Zkp n vs k=k (Zax n vs).1 (Zax n vs).2
  | [],n,k=>rfl
  | v :: vs,n,k=>by
    unfold Zkp
    split
    · rename_i sz
      simp only[Zax]
      cases h:Nat.blt 0 sz with
      | true=>simp only[Zcn,cond_true];exact ZhF vs (n+1) _
      | false=>exact ZhF vs n _
    · rename_i h
      rw[ZhF vs n]
      cases v<;>first | rfl | exact absurd rfl (h _)
def ZlL (n:Nat) (H:Zd) (k:Zd→List Blk→Option β):Option β:=
  match H with
  | []=>k [] []
  | b :: H=>(match b with
    | .cells cs=>Zkp n cs fun cs bs=>ZbW (n+bs.length) fun n1=>ZlL n1 H fun H q=>k (.cells cs :: H) (bs++q)
    | b=>ZlL n H fun H q=>k (b :: H) q)
theorem ZkB:∀(H:Zd) (n:Nat) (k:Zd→List Blk→Option β),ZlL n H k=k (ZaZ n H).1 (ZaZ n H).2
  | [],n,k=>rfl
  | b :: H,n,k=>by
    unfold ZlL
    cases b<;>first | exact ZkB H n _ | skip
    rename_i cs
    simp only[ZhF,Zcn,ZaZ]
    exact ZkB H _ _
def ZmK (m:Nat) (vs:List V) (H:Zd) (k:List V→Zd→Option β):Option β:=
  Zdw m vs H fun _ vs1 H1=>Zkp H1.length vs1 fun vs2 bs=>ZbW (H1.length+bs.length) fun n=>ZlL n H1 fun H2 q=>Zjf (H2++(bs++q)) fun H2=>Zdw m vs2 H2 fun _ vs3 H3=>k vs3 H3
theorem Zr6 (m:Nat) (vs:List V) (H:Zd) (k:List V→Zd→Option β):ZmK m vs H k=(match Zm7 m vs H with | some (vs,H)=>k vs H | none=>none):=by
  unfold ZmK Zm7
  rw[ZbH]
  cases h:extract m vs H with
  | none=>rfl
  | some p=>
    obtain⟨L,vs1,H1⟩:=p
    simp only[ZhF,Zcn,ZkB,Zh6,ZbH]
    cases extract m (Zax H1.length vs1).1 ((ZaZ (H1.length+(Zax H1.length vs1).2.length) H1).1++((Zax H1.length vs1).2++(ZaZ (H1.length+(Zax H1.length vs1).2.length) H1).2))<;>rfl
noncomputable def br (c:Bool) (x y:Option β):Option β:=@ite _ (c=true) (Classical.propDecidable _) x y
theorem Zb0 (c:Bool) (x y:Option β):br c x y=bif c then x else y:=by
  unfold br
  cases c with
  | true=>exact if_pos rfl
  | false=>exact if_neg (by simp)
def brL (c:Bool) (x y:Option β):Option β:=match c with | true=>x | false=>y
noncomputable def Zjs (c:Bool) (k:V→Option β):Option β:=br c (k (.d (.bool true))) (k (.d (.bool false)))
theorem ZhN (c:Bool) (k:V→Option β):Zjs c k=k (.d (.bool c)):=by
  unfold Zjs
  rw[Zb0]
  cases c<;>rfl
noncomputable def ZpX (v:V) (k:V→Option β):Option β:=match v with | .d (.bool c)=>Zjs c k | v=>k v
theorem Zsh (v:V) (k:V→Option β):ZpX v k=k v:=by
  unfold ZpX
  split
  · exact ZhN _ _
  · rfl
noncomputable def Zux (x:D) (k:V→Option β):Option β:=match x with | .bool c=>Zjs c k | .tup ts=>k (.tup (Za0 ts)) | x=>k (.d x)
abbrev K3 (β:Type):=V→List (Nat×Blk)→List Blk→Option β
noncomputable def ZyC (op:BinOp) (x y:V) (k:V→Option β):Option β:=
  match op,x,y with
  | .quo,.d (.int i a),.d (.int j b)=>(match i==j with | true=>br (b==0) none (k (.d (.int i (i.wrap (a.tdiv b))))) | false=>none)
  | .rem,.d (.int i a),.d (.int j b)=>(match i==j with | true=>br (b==0) none (k (.d (.int i (a.tmod b)))) | false=>none)
  | .shl,.d (.int i a),.d (.int _ b)=>br (decide (b<0)) none (k (.d (.int i (i.wrap (a*2 ^ (min b.toNat i.bits))))))
  | .shr,.d (.int i a),.d (.int _ b)=>br (decide (b<0)) none (k (.d (.int i (a.fdiv (2 ^ (min b.toNat i.bits))))))
  | op,x,y=>match ZkT op x y with | some (.bool c)=>Zjs c k | some r=>k (.d r) | none=>none
noncomputable def ZtU (H:Zd) (n:Nat) (ag:Bool) (x:V) (k:V→Option β):Option β:=
  match x with
  | .eptr b sz i j=>(match nth H b with
    | some (.arr sz' xs)=>(match Nat.beq sz sz' with
      | true=>bnd (nth xs i) fun x=>(match Zdm n ag (Za0 (x.cells.drop j)) with | some v=>ZpX v k | none=>none)
      | false=>none)
    | _=>none)
  | x=>match ZbY H n ag x with | some v=>ZpX v k | none=>none
noncomputable def Zrg (H:Zd) (n:Nat) (x v:V) (k:K3 β):Option β:=
  match x with
  | .eptr b sz i j=>(match nth H b with
    | some (.arr sz' xs)=>(match Nat.beq sz sz' with
      | true=>bnd (nth xs i) fun x=>(match fr H 6 v with
        | some (y,ks)=>(match Zgi ks b with
          | true=>none
          | false=>(match Nat.beq y.cells.length n&&Nat.ble (j+n) x.cells.length&&(V.d y).okb&&(x.isAgg || !y.isAgg) with
            | true=>bnd (some (ZcD xs i (bif x.isAgg then .agg (ZP x.cells j y.cells) else y))) fun zs=>k .bad ((b,.arr sz zs) :: ks.map (fun j=>(j,.dead))) []
            | false=>none))
        | none=>none)
      | false=>none)
    | _=>none)
  | x=>match ZiJ H n x v with | some (a,b,c)=>k a b c | none=>none
noncomputable def ZqE (nid:Nat) (H:Zd) (sz:Nat) (x y:V) (k:K3 β):Option β:=
  match elems H y with
  | none=>none
  | some ys=>
    br (Zhy sz ys 0) (match x with
    | .nilsl _=>br (Nat.ble ys.length lim) (bnd (some ys) fun zs=>k (.sl nid sz) [] [.arr sz zs]) none
    | .sl b sz'=>(match nth H b with
      | some (.arr sz'' xs)=>(match Nat.beq sz sz'&&Nat.beq sz sz'' with
        | true=>br (Nat.ble (xs.length+ys.length) lim) (bnd (some (xs++ys)) fun zs=>k (.sl nid sz) [(b,.dead)] [.arr sz zs]) none
        | false=>none)
      | _=>none)
    | .slp b sz' o len=>(match nth H b with
      | some (.arr sz'' xs)=>(match Nat.beq sz sz'&&Nat.beq sz sz'' with
        | true=>br (Nat.ble (o+len+ys.length) xs.length) (bnd (some (xs.take (o+len)++(ys++xs.drop (o+len+ys.length)))) fun zs=>bnd (some (len+ys.length)) fun n=>k (.slp b sz o n) [(b,.arr sz zs)] []) none
        | false=>none)
      | _=>none)
    | _=>none) none
noncomputable def Zlo (H:Zd) (sz:Nat) (x y:V) (k:V→Option β):Option β:=
  match x with
  | .nilsl _=>(match elems H y with
    | some ys=>br (Zhy sz ys 0) (br (Nat.ble ys.length lim) (bnd (some ys) fun zs=>k (.d (.list true zs))) none) none
    | none=>none)
  | _=>none
noncomputable def Zon (v:Option V) (dflt:Nat) (k:Nat→Option β):Option β:=
  match v with
  | none=>k dflt
  | some (.d (.int _ n))=>br (decide (0≤n)) (k n.toNat) none
  | _=>none
noncomputable def ZqM (H:Zd) (sz:Nat) (x:V) (lo hi mx:Option V) (k:V→Option β):Option β:=
  match elems H x with
  | none=>none
  | some xs=>
    Zon lo 0 fun l=>Zon hi xs.length fun h=>
      br (Nat.ble l h&&Nat.ble h xs.length)
        (match mx with
        | none=>(match x with
          | .d (.list own _)=>br (Nat.beq l 0 || Zhy sz xs l) (bnd (some ((xs.drop l).take (h-l))) fun zs=>k (.d (.list own zs))) none
          | .sl b sz'=>(match Nat.beq sz sz' with | true=>bnd (some l) fun l'=>bnd (some (h-l)) fun n=>k (.slp b sz l' n) | false=>none)
          | .slp b sz' o _=>(match Nat.beq sz sz' with | true=>bnd (some (o+l)) fun l'=>bnd (some (h-l)) fun n=>k (.slp b sz l' n) | false=>none)
          | .nilsl _=>k (.nilsl sz)
          | _=>none)
        | some m=>Zon (some m) 0 fun m=>br (Nat.beq m l&&Nat.beq m h) (k (.nilsl sz)) none)
        none
noncomputable def ZqP (H:Zd) (sz:Nat) (x i:V) (k:V→Option β):Option β:=
  match i with
  | .d (.int _ i)=>(match x with
    | .d (.list _ xs)=>bnd (ZI xs i) fun x=>(match Nat.beq x.cells.length sz&&(V.d x).okb with | true=>k (.d (.rptr x.cells)) | false=>none)
    | .sl b sz'=>(match nth H b with
      | some (.arr sz'' xs)=>(match Nat.beq sz sz'&&Nat.beq sz sz'' with | true=>bnd (ZI xs i) fun _=>k (.eptr b sz i.toNat 0) | false=>none)
      | _=>none)
    | .slp b sz' o len=>(match nth H b with
      | some (.arr sz'' xs)=>(match Nat.beq sz sz'&&Nat.beq sz sz'' with | true=>bnd (ZI ((xs.drop o).take len) i) fun _=>k (.eptr b sz (o+i.toNat) 0) | false=>none)
      | _=>none)
    | _=>none)
  | _=>none
noncomputable def ZqD (len sz:Nat) (ag:Bool) (x i:V) (k:V→Option β):Option β:=
  match i with
  | .d (.int _ i)=>br (x.isAggV&&(decide (0≤i)&&decide (i<len))) (bnd (Zdm sz ag (x.cells.drop (i.toNat*sz))) k) none
  | _=>none
noncomputable def Znm (H:Zd) (len sz:Nat) (x i:V) (k:V→Option β):Option β:=
  match i with
  | .d (.int _ i)=>br (decide (0≤i)&&decide (i<len)) (match ZiG H (i.toNat*sz) x with | some v=>k v | none=>none) none
  | _=>none
noncomputable def Znw (x i:V) (k:V→Option β):Option β:=
  match x,i with
  | .d (.str s),.d (.int _ i)=>br (decide (0≤i)) (bnd s[i.toNat]? fun b=>k (.d (.int .u8 b.toNat))) none
  | _,_=>none
noncomputable def ZmF (k:V→Option β) (r:V×Zd):Option β:=match fr r.2 6 r.1 with | some (x,_)=>Zux x k | none=>none
noncomputable def ZmI (Γ:Ctx) (cf:Z4) (nid:Nat) (H:Zd) (f:Nat) (args:List V) (k:K3 β):Option β:=
  match Γ.mode f with
  | 0=>(match fzs H args with
    | some l=>Zhd (Za0 l) fun l=>bnd (cf f l []) (ZmF fun v=>k v [] [])
    | none=>none)
  | 1=>(match fzs H args with
    | some l=>Zhd (Za0 l) fun l=>bnd (cf f l []) fun r=>(match Zpe r.1&&Zki r.2 with | true=>k (Zll (fun j=>some (nid+j)) r.1) [] (r.2.map (Zgn (fun j=>some (nid+j)))) | false=>none)
    | none=>none)
  | _ => (Zdw 0 args H fun L args' H0 => bnd (cf f args' H0) fun r => (match Zke r.1 && ZhD r.2 with
        | true=>k (Zll (fun j=>match nth L j with | some b=>some b | none=>some (nid+(j-L.length))) r.1)
          (L.zip (r.2.map (Zgn (fun j=>match nth L j with | some b=>some b | none=>some (nid+(j-L.length))))))
          ((r.2.drop L.length).map (Zgn (fun j=>match nth L j with | some b=>some b | none=>some (nid+(j-L.length)))))
        | false=>none))
noncomputable def Zro (H:Zd) (ks:List Bool) (m k v:V) (kk:K3 β):Option β:=
  match m,k,v with
  | .mp b,.d k,.d y=>(match nth H b with
    | some (.mp es)=>(match ZaU ks k&&Zgh y with | true=>bnd (Zii es k y) fun l=>kk .bad [(b,.mp l)] [] | false=>none)
    | _=>none)
  | _,_,_=>none
noncomputable def Zri (H:Zd) (ks:List Bool) (z:D) (m k:V) (kk:K3 β):Option β:=
  match m,k with
  | .mp b,.d k=>(match nth H b with
    | some (.mp es)=>(match ZaU ks k with | true=>bnd (ZyM es k z) fun y=>kk (.d y) [] [] | false=>none)
    | _=>none)
  | _,_=>none
noncomputable def Zv2 (H:Zd) (x:V) (k:K3 β):Option β:=bnd (Zp8 H x) fun q=>br (Nat.ble q.2.length lim) (k .bad [(q.1,.arr 1 ((sortI q.2).map fun n=>.int .i64 n))] []) none
noncomputable def opK (Γ:Ctx) (cf:Z4) (e:Env) (nid:Nat) (H:Zd) (o:O) (k:K3 β):Option β:=
  match o with
  | .mov x=>k (x.val e) [] []
  | .pick c a b=>(match c.val e with | .d (.bool t)=>brL t (k (a.val e) [] []) (k (b.val e) [] []) | _=>none)
  | .load n ag x=>ZtU H n ag (x.val e) fun v=>k v [] []
  | .store n x v=>Zrg H n (x.val e) (v.val e) k
  | .storek n x v _=>Zrg H n (x.val e) (v.val e) k
  | .bin op x y=>ZyC op (x.val e) (y.val e) fun v=>k v [] []
  | .slice sz x lo hi mx=>ZqM H sz (x.val e) (lo.map (·.val e)) (hi.map (·.val e)) (mx.map (·.val e)) fun v=>k v [] []
  | .iaddr sz x i=>ZqP H sz (x.val e) (i.val e) fun v=>k v [] []
  | .index len sz ag x i=>ZqD len sz ag (x.val e) (i.val e) fun v=>k v [] []
  | .iaddrA len sz x i=>Znm H len sz (x.val e) (i.val e) fun v=>k v [] []
  | .indexS x i=>Znw (x.val e) (i.val e) fun v=>k v [] []
  | .append sz x y=>ZqE nid H sz (x.val e) (y.val e) k
  | .appendD sz x y=>Zlo H sz (x.val e) (y.val e) fun v=>k v [] []
  | .eqv ks neg x y=>(match x.val e,y.val e with
    | .d a,.d b=>(match ZaU ks a with | true=>(match eqD a b with | some r=>Zjs (bif neg then !r else r) fun v=>k v [] [] | none=>none) | false=>none)
    | _,_=>none)
  | .un .not x=>(match x.val e with | .d (.bool b)=>brL b (k (.d (.bool false)) [] []) (k (.d (.bool true)) [] []) | _=>none)
  | .extract x i=>(match x.val e with
    | .tup vs=>(match nth vs i with | some (.d (.bool c))=>Zjs c fun v=>k v [] [] | some v=>k v [] [] | none=>none)
    | .d (.tup vs)=>(match nth vs i with | some (.bool c)=>Zjs c fun v=>k v [] [] | some v=>k (.d v) [] [] | none=>none)
    | _=>none)
  | .mkslice sz z n c=>(match n.val e,c.val e with
    | .d (.int _ n),.d (.int _ c)=>br (decide (0≤n)&&decide (n≤lim)&&decide (n==c))
        (bnd (some (List.replicate n.toNat (match z with | [x]=>x | z=>.agg z))) fun zs=>k (.sl nid sz) [] [.arr sz zs]) none
    | _,_=>none)
  | .len x=>(match elems H (x.val e) with | some xs=>bnd (some (xs.length:Int)) fun n=>k (.d (.int .i64 n)) [] [] | none=>none)
  | .call f args=>ZmI Γ cf nid H f (Zdu e args) k
  | .callv x args=>(match ZiU (x.val e) with | some (f,caps)=>(match Zfb Γ (x.val e) f caps with | true=>none | false=>ZmI Γ cf nid H (Zkg f) (ZmM f caps (Zdu e args)) k) | none=>none)
  | .invoke tab x args=>(match x.val e with
    | .d (.iface t y)=>(match Zju tab t with | some f=>ZmI Γ cf nid H f (.d y :: Zdu e args) k | none=>none)
    | _=>none)
  | .callk f args _=>ZmI Γ cf nid H f (Zdu e args) k
  | .spec id args=>(match H,Zi7 (Zdu e args) with | [],some l=>bnd (Zkj id l) fun r=>k (.d r) [] [] | _,_=>none)
  | .nilq x=>(match elems H (x.val e) with | some xs=>br (Nat.blt 0 xs.length) (k (.d (.bool false)) [] []) none | none=>none)
  | .sortI x=>Zv2 H (x.val e) k
  | .mapset ks m x v=>Zro H ks (m.val e) (x.val e) (v.val e) k
  | .mapget ks z m x=>Zri H ks z (m.val e) (x.val e) k
  | o=>match opE Γ cf e nid H o with | some (v,up,nw)=>ZpX v fun v=>k v up nw | none=>none
def on3 (x:Res) (k:K3 β):Option β:=match x with | some (v,up,nw)=>k v up nw | none=>none
theorem ZlC (Γ:Ctx) (cf:Z4) (nid:Nat) (H:Zd) (f:Nat) (args:List V) (k:K3 β):ZmI Γ cf nid H f args k=on3 (Zfa Γ cf nid H f args) k:=by
  unfold ZmI Zfa
  generalize Γ.mode f=m
  match m with
  | 0=>
    dsimp only
    simp only[Zdq]
    cases h1:fzs H args with
    | none=>rfl
    | some l=>
      simp only[ZgO]
      cases h2:cf f (Za0 l) [] with
      | none=>rfl
      | some r=>
        obtain⟨v,H1⟩:=r
        dsimp only[ZmF]
        cases h3:fr H1 6 v with
        | none=>rfl
        | some q => obtain ⟨x, ks⟩ := q; cases x <;> try rfl
                    exact ZhN _ (fun v=>k v [] [])
  | 1=>
    dsimp only
    simp only[Zdq]
    cases h1:fzs H args with
    | none=>rfl
    | some l=>
      simp only[ZgO]
      cases h2:cf f (Za0 l) [] with
      | none=>rfl
      | some r=>
        dsimp only
        cases h3:(Zpe r.1&&Zki r.2)<;>rfl
  | m+2=>
    dsimp only
    simp only[Zdq]
    rw[ZbH]
    cases h1:extract 0 args H with
    | none=>rfl
    | some q=>
      obtain⟨L,args',H0⟩:=q
      dsimp only
      cases h2:cf f args' H0 with
      | none=>rfl
      | some r=>
        dsimp only
        cases h3:(Zke r.1&&ZhD r.2)<;>rfl
theorem Zyp (op:BinOp) (x y:V) (k:V→Option β):ZyC op x y k=(match ZkT op x y with | some r=>k (.d r) | none=>none):=by
  unfold ZyC
  split
  · rename_i i a j b
    simp only[ZkT,ZyK]
    cases h:(i==j)<;>simp only[cond_true,cond_false,Zb0]
    cases h2:(b==0)<;>rfl
  · rename_i i a j b
    simp only[ZkT,ZyK]
    cases h:(i==j)<;>simp only[cond_true,cond_false,Zb0]
    cases h2:(b==0)<;>rfl
  · rename_i i a j b
    simp only[ZkT,shI,Zb0]
    cases h:decide (b<0)<;>rfl
  · rename_i i a j b
    simp only[ZkT,shI,Zb0]
    cases h:decide (b<0)<;>rfl
  · cases h:ZkT op x y with
    | none=>rfl
    | some r => cases r <;> try rfl
                exact ZhN _ _
theorem Zwy (H:Zd) (n:Nat) (ag:Bool) (x:V) (k:V→Option β):ZtU H n ag x k=(match ZbY H n ag x with | some v=>k v | none=>none):=by
  unfold ZtU
  simp only[Zdq]
  simp only[Zsh]
  split
  · rename_i b sz i j
    simp only[ZbY]
    cases h:nth H b with
    | none=>rfl
    | some blk=>
      cases blk<;>try rfl
      rename_i sz' xs
      dsimp only
      cases h2:Nat.beq sz sz'<;>simp only[cond_true,cond_false]
      cases h3:nth xs i<;>rfl
  · rfl
theorem ZpV (H:Zd) (n:Nat) (x v:V) (k:K3 β):Zrg H n x v k=on3 (ZiJ H n x v) k:=by
  unfold Zrg
  simp only[Zdq]
  split
  · rename_i b sz i j
    simp only[ZiJ]
    cases h:nth H b with
    | none=>rfl
    | some blk=>
      cases blk<;>try rfl
      rename_i sz' xs
      dsimp only
      cases h2:Nat.beq sz sz'<;>simp only[cond_true,cond_false]<;>try rfl
      cases h3:nth xs i with
      | none=>rfl
      | some x=>
        cases h4:fr H 6 v with
        | none=>rfl
        | some q=>
          obtain⟨y,ks⟩:=q
          dsimp only
          cases h5:Zgi ks b<;>simp only[cond_true,cond_false]<;>try rfl
          cases h6:(Nat.beq y.cells.length n&&Nat.ble (j+n) x.cells.length&&(V.d y).okb&&(x.isAgg || !y.isAgg))<;>rfl
  · rfl
theorem ZsB (nid:Nat) (H:Zd) (sz:Nat) (x y:V) (k:K3 β):ZqE nid H sz x y k=on3 (ZfE nid H sz x y) k:=by
  unfold ZqE ZfE
  cases h:elems H y with
  | none=>rfl
  | some ys=>
    simp only[Zb0,Zi5]
    cases h0:Zhy sz ys 0<;>simp only[cond_true,cond_false]<;>try rfl
    cases x<;>try rfl
    · rename_i b sz'
      dsimp only
      cases h1:nth H b with
      | none=>rfl
      | some blk=>
        cases blk<;>try rfl
        rename_i sz'' xs
        dsimp only
        cases h2:(Nat.beq sz sz'&&Nat.beq sz sz'')<;>simp only[cond_true,cond_false]<;>try rfl
        cases h3:Nat.ble (xs.length+ys.length) lim<;>rfl
    · rename_i b sz' o len
      dsimp only
      cases h1:nth H b with
      | none=>rfl
      | some blk=>
        cases blk<;>try rfl
        rename_i sz'' xs
        dsimp only
        cases h2:(Nat.beq sz sz'&&Nat.beq sz sz'')
        · simp only[Bool.false_and,cond_false];rfl
        · simp only[Bool.true_and,Zb0]
          cases h3:Nat.ble (o+len+ys.length) xs.length<;>rfl
    · dsimp only
      cases h3:Nat.ble ys.length lim<;>rfl
theorem Zsw (H:Zd) (sz:Nat) (x y:V) (k:V→Option β):Zlo H sz x y k=(match Zg0 H sz x y with | some v=>k v | none=>none):=by
  unfold Zlo Zg0
  cases x<;>try rfl
  dsimp only
  cases h:elems H y with
  | none=>rfl
  | some ys=>
    simp only[Zb0,Zi5]
    cases h0:Zhy sz ys 0<;>cases h1:Nat.ble ys.length lim<;>rfl
theorem Zvs (v:Option V) (d:Nat) (k:Nat→Option β):Zon v d k=(match Zf9 v d with | some n=>k n | none=>none):=by
  unfold Zon Zf9
  cases v with
  | none=>rfl
  | some v=>
    cases v<;>try rfl
    rename_i x
    cases x<;>try rfl
    rename_i i n
    dsimp only
    rw[Zb0]
    cases h:decide (0≤n)<;>rfl
theorem Zu7 (H:Zd) (sz:Nat) (x:V) (lo hi mx:Option V) (k:V→Option β):ZqM H sz x lo hi mx k=(match ZgZ H sz x lo hi mx with | some v=>k v | none=>none):=by
  unfold ZqM ZgZ
  cases h:elems H x with
  | none=>rfl
  | some xs=>
    simp only[Zvs]
    cases h1:Zf9 lo 0 with
    | none=>rfl
    | some l=>
      cases h2:Zf9 hi xs.length with
      | none=>rfl
      | some hh=>
        simp only[Zb0,Zi5]
        cases h3:(Nat.ble l hh&&Nat.ble hh xs.length)<;>simp only[cond_true,cond_false]
        cases mx with
        | none=>
          cases x<;>try rfl
          · rename_i x
            cases x<;>try rfl
            dsimp only
            cases h4:(Nat.beq l 0 || Zhy sz xs l)<;>rfl
          · rename_i b sz'
            dsimp only
            cases h4:Nat.beq sz sz'<;>rfl
          · rename_i b sz' o len
            dsimp only
            cases h4:Nat.beq sz sz'<;>rfl
        | some m=>
          dsimp only
          cases h4:Zf9 (some m) 0 with
          | none=>rfl
          | some m=>
            dsimp only
            cases h5:(Nat.beq m l&&Nat.beq m hh)<;>rfl
theorem Zvv (H:Zd) (sz:Nat) (x i:V) (k:V→Option β):ZqP H sz x i k=(match ZgF H sz x i with | some v=>k v | none=>none):=by
  unfold ZqP ZgF
  simp only[Zdq]
  cases i<;>try rfl
  rename_i i
  cases i<;>try rfl
  rename_i ki i
  cases x<;>try rfl
  · rename_i x
    cases x<;>try rfl
    rename_i own xs
    dsimp only
    cases h:ZI xs i with
    | none=>rfl
    | some x=>
      dsimp only
      cases h2:(Nat.beq x.cells.length sz&&(V.d x).okb)<;>rfl
  · rename_i b sz'
    dsimp only
    cases h1:nth H b with
    | none=>rfl
    | some blk=>
      cases blk<;>try rfl
      rename_i sz'' xs
      dsimp only
      cases h2:(Nat.beq sz sz'&&Nat.beq sz sz'')<;>simp only[cond_true,cond_false]
      cases h:ZI xs i<;>rfl
  · rename_i b sz' o len
    dsimp only
    cases h1:nth H b with
    | none=>rfl
    | some blk=>
      cases blk<;>try rfl
      rename_i sz'' xs
      dsimp only
      cases h2:(Nat.beq sz sz'&&Nat.beq sz sz'')<;>simp only[cond_true,cond_false]
      cases h:ZI ((xs.drop o).take len) i<;>rfl
theorem ZuW (len sz:Nat) (ag:Bool) (x i:V) (k:V→Option β):ZqD len sz ag x i k=(match ZkY len sz ag x i with | some v=>k v | none=>none):=by
  unfold ZqD ZkY
  cases i<;>try rfl
  rename_i i
  cases i<;>try rfl
  rename_i ki i
  dsimp only
  rw[Zb0,Zdq]
  cases (x.isAggV&&(decide (0≤i)&&decide (i<(len:Int)))) with
  | false=>rfl
  | true=>simp only[cond_true];cases Zdm sz ag (List.drop (i.toNat*sz) x.cells)<;>rfl
theorem ZsO (H:Zd) (len sz:Nat) (x i:V) (k:V→Option β):Znm H len sz x i k=(match ZeS H len sz x i with | some v=>k v | none=>none):=by
  unfold Znm ZeS
  cases i<;>try rfl
  rename_i i
  cases i<;>try rfl
  rename_i ki i
  dsimp only
  rw[Zb0]
  cases (decide (0≤i)&&decide (i<(len:Int)))<;>rfl
theorem ZsF (x i:V) (k:V→Option β):Znw x i k=(match ZiK x i with | some v=>k v | none=>none):=by
  unfold Znw ZiK
  cases x<;>try rfl
  rename_i x
  cases x<;>try rfl
  rename_i s
  cases i<;>try rfl
  rename_i i
  cases i<;>try rfl
  rename_i ki i
  dsimp only
  rw[Zb0,Zdq]
  cases decide (0≤i) with
  | false=>rfl
  | true=>simp only[cond_true];cases s[i.toNat]?<;>rfl
theorem Zt3 (x:Res) (k:K3 β):(match x with | some (v,up,nw)=>ZpX v fun v=>k v up nw | none=>none)=on3 x k:=by
  cases x with
  | none=>rfl
  | some q=>exact Zsh _ _
theorem ZvB (H:Zd) (x:V) (k:K3 β):Zv2 H x k=on3 (ZsA H x) k:=by
  unfold Zv2 ZsA
  cases Zp8 H x with
  | none=>rw[Zdq];rfl
  | some q=>
    obtain⟨b,zs⟩:=q
    rw[Zi5,Zb0]
    dsimp only
    cases Nat.ble zs.length lim<;>rfl
theorem Ztj (H:Zd) (ks:List Bool) (m x v:V) (k:K3 β):Zro H ks m x v k=on3 (Zk4 H ks m x v) k:=by
  unfold Zro Zk4
  cases m<;>try rfl
  cases x<;>try rfl
  cases v<;>try rfl
  rename_i b x y
  dsimp only
  cases hb:nth H b with
  | none=>rfl
  | some blk=>
    cases blk<;>try rfl
    rename_i es
    dsimp only
    cases hk:(ZaU ks x&&Zgh y) with
    | false=>rfl
    | true=>
      dsimp only
      rw[Zdq]
      cases hs:Zii es x y<;>rfl
theorem Ztx (H:Zd) (ks:List Bool) (z:D) (m x:V) (k:K3 β):Zri H ks z m x k=on3 (match Zj1 H ks z m x with | some r=>ZaR (.d r) | none=>none) k:=by
  unfold Zri Zj1
  cases m<;>try rfl
  cases x<;>try rfl
  rename_i b x
  dsimp only
  cases hb:nth H b with
  | none=>rfl
  | some blk=>
    cases blk<;>try rfl
    rename_i es
    dsimp only
    cases hk:ZaU ks x with
    | false=>rfl
    | true=>
      dsimp only
      rw[Zdq]
      cases hs:ZyM es x z<;>rfl
theorem ZqQ (Γ:Ctx) (cf:Z4) (e:Env) (nid:Nat) (H:Zd) (o:O) (k:K3 β):opK Γ cf e nid H o k=on3 (opE Γ cf e nid H o) k:=by
  cases o<;>try (first | rfl | exact Zt3 _ _)
  · rename_i c a b
    show(match c.val e with | .d (.bool t)=>brL t (k (a.val e) [] []) (k (b.val e) [] []) | _=>none)=on3 (match c.val e with | .d (.bool t)=>ZaR (bif t then a.val e else b.val e) | _=>none) k
    cases c.val e<;>try rfl
    rename_i x
    cases x<;>try rfl
    rename_i t
    cases t<;>rfl
  · rename_i n ag x
    show ZtU H n ag (x.val e) (fun v=>k v [] [])=on3 (match ZbY H n ag (x.val e) with | some v=>ZaR v | none=>none) k
    rw[Zwy]
    cases h:ZbY H n ag (x.val e)<;>rfl
  · exact ZpV _ _ _ _ _
  · rename_i op x y
    show ZyC op (x.val e) (y.val e) (fun v=>k v [] [])=on3 (match ZkT op (x.val e) (y.val e) with | some r=>ZaR (.d r) | none=>none) k
    rw[Zyp]
    cases h:ZkT op (x.val e) (y.val e)<;>rfl
  · rename_i ks neg x y
    show(match x.val e,y.val e with
      | .d a,.d b=>(match ZaU ks a with | true=>(match eqD a b with | some r=>Zjs (bif neg then !r else r) (fun v=>k v [] []) | none=>none) | false=>none)
      | _,_=>none)=on3 (match x.val e,y.val e with
      | .d a,.d b=>(match ZaU ks a with | true=>(match eqD a b with | some r=>ZaR (.d (.bool (bif neg then !r else r))) | none=>none) | false=>none)
      | _,_=>none) k
    cases x.val e<;>try rfl
    rename_i a
    cases y.val e<;>try rfl
    rename_i b
    dsimp only
    cases hn:ZaU ks a<;>try rfl
    dsimp only
    cases h:eqD a b with
    | none=>rfl
    | some r=>exact ZhN _ _
  · rename_i op x
    cases op<;>try (first | rfl | exact Zt3 _ _)
    show(match x.val e with | .d (.bool b)=>brL b (k (.d (.bool false)) [] []) (k (.d (.bool true)) [] []) | _=>none)=on3 (match unE .not (x.val e) with | some r=>ZaR (.d r) | none=>none) k
    cases x.val e<;>try rfl
    rename_i a
    cases a<;>try rfl
    rename_i b
    cases b<;>rfl
  · rename_i f caps
    cases caps<;>rfl
  · rename_i sz z n c
    show(match n.val e,c.val e with
      | .d (.int _ n),.d (.int _ c)=>br (decide (0≤n)&&decide (n≤lim)&&decide (n==c)) (bnd (some (List.replicate n.toNat (match z with | [x]=>x | z=>.agg z))) fun zs=>k (.sl nid sz) [] [.arr sz zs]) none
      | _,_=>none)=on3 (match n.val e,c.val e with
      | .d (.int _ n),.d (.int _ c)=>bif decide (0≤n)&&decide (n≤lim)&&decide (n==c) then some (.sl nid sz,[],[.arr sz (List.replicate n.toNat (match z with | [x]=>x | z=>.agg z))]) else none
      | _,_=>none) k
    cases n.val e<;>try rfl
    rename_i x
    cases x<;>try rfl
    rename_i i n1
    cases c.val e<;>try rfl
    rename_i x
    cases x<;>try rfl
    rename_i j c1
    dsimp only
    simp only[Zb0,Zi5]
    cases h3:(decide (0≤n1)&&decide (n1≤lim)&&decide (n1==c1))<;>rfl
  · rename_i sz x lo hi mx
    show ZqM H sz (x.val e) (lo.map (·.val e)) (hi.map (·.val e)) (mx.map (·.val e)) (fun v=>k v [] [])=on3 (match ZgZ H sz (x.val e) (lo.map (·.val e)) (hi.map (·.val e)) (mx.map (·.val e)) with | some v=>ZaR v | none=>none) k
    rw[Zu7]
    cases h:ZgZ H sz (x.val e) (lo.map (·.val e)) (hi.map (·.val e)) (mx.map (·.val e))<;>rfl
  · rename_i sz x i
    show ZqP H sz (x.val e) (i.val e) (fun v=>k v [] [])=on3 (match ZgF H sz (x.val e) (i.val e) with | some v=>ZaR v | none=>none) k
    rw[Zvv]
    cases h:ZgF H sz (x.val e) (i.val e)<;>rfl
  · rename_i len sz ag x i
    show ZqD len sz ag (x.val e) (i.val e) (fun v=>k v [] [])=on3 (match ZkY len sz ag (x.val e) (i.val e) with | some v=>ZaR v | none=>none) k
    rw[ZuW]
    cases h:ZkY len sz ag (x.val e) (i.val e)<;>rfl
  · rename_i x i
    show Znw (x.val e) (i.val e) (fun v=>k v [] [])=on3 (match ZiK (x.val e) (i.val e) with | some v=>ZaR v | none=>none) k
    rw[ZsF]
    cases h:ZiK (x.val e) (i.val e)<;>rfl
  · rename_i len sz x i
    show Znm H len sz (x.val e) (i.val e) (fun v=>k v [] [])=on3 (match ZeS H len sz (x.val e) (i.val e) with | some v=>ZaR v | none=>none) k
    rw[ZsO]
    cases h:ZeS H len sz (x.val e) (i.val e)<;>rfl
  · rename_i x
    show(match elems H (x.val e) with | some xs=>bnd (some (xs.length:Int)) fun n=>k (.d (.int .i64 n)) [] [] | none=>none)=on3 (match ZqU H (x.val e) with | some r=>ZaR (.d r) | none=>none) k
    unfold ZqU
    cases elems H (x.val e) with
    | none=>rfl
    | some xs=>exact Zi5 _ _
  · exact ZsB _ _ _ _ _ _
  · rename_i sz x y
    show Zlo H sz (x.val e) (y.val e) (fun v=>k v [] [])=on3 (match Zg0 H sz (x.val e) (y.val e) with | some v=>ZaR v | none=>none) k
    rw[Zsw]
    cases h:Zg0 H sz (x.val e) (y.val e)<;>rfl
  · rename_i x i
    show(match x.val e with
      | .tup vs=>(match nth vs i with | some (.d (.bool c))=>Zjs c (fun v=>k v [] []) | some v=>k v [] [] | none=>none)
      | .d (.tup vs)=>(match nth vs i with | some (.bool c)=>Zjs c (fun v=>k v [] []) | some v=>k (.d v) [] [] | none=>none)
      | _=>none)=on3 (match x.val e with
      | .tup vs=>(match nth vs i with | some v=>ZaR v | none=>none)
      | .d (.tup vs)=>(match nth vs i with | some v=>ZaR (.d v) | none=>none)
      | _=>none) k
    cases x.val e<;>try rfl
    · rename_i y
      cases y<;>try rfl
      rename_i vs
      dsimp only
      cases nth vs i with
      | none=>rfl
      | some v => cases v <;> try rfl
                  exact ZhN _ _
    · rename_i vs
      dsimp only
      cases nth vs i with
      | none=>rfl
      | some v => cases v <;> try rfl
                  rename_i y
                  cases y<;>try rfl
                  exact ZhN _ _
  · exact ZlC _ _ _ _ _ _ _
  · rename_i x args
    show(match ZiU (x.val e) with | some (f,caps)=>(match Zfb Γ (x.val e) f caps with | true=>none | false=>ZmI Γ cf nid H (Zkg f) (ZmM f caps (Zdu e args)) k) | none=>none)=_
    rw[Zfu]
    cases h:ZiU (x.val e) with
    | none=>rfl
    | some q=>
      obtain⟨f,caps⟩:=q
      dsimp only
      cases hb:Zfb Γ (x.val e) f caps
      · exact ZlC _ _ _ _ _ _ _
      · rfl
  · rename_i tab x args
    show(match x.val e with
      | .d (.iface t y)=>(match Zju tab t with | some f=>ZmI Γ cf nid H f (.d y :: Zdu e args) k | none=>none)
      | _=>none)=_
    rw[ZeB]
    cases h:x.val e<;>try rfl
    rename_i y
    cases y<;>try rfl
    rename_i t y
    dsimp only
    cases h2:Zju tab t with
    | none=>rfl
    | some f=>exact ZlC _ _ _ _ _ _ _
  · exact Ztj _ _ _ _ _ _
  · exact Ztx _ _ _ _ _ _
  · exact ZlC _ _ _ _ _ _ _
  · rename_i x
    show(match elems H (x.val e) with | some xs=>br (Nat.blt 0 xs.length) (k (.d (.bool false)) [] []) none | none=>none)=on3 (match elems H (x.val e) with | some xs=>(match Nat.blt 0 xs.length with | true=>ZaR (.d (.bool false)) | false=>none) | none=>none) k
    cases elems H (x.val e) with
    | none=>rfl
    | some xs=>
      dsimp only
      rw[Zb0]
      cases Nat.blt 0 xs.length<;>rfl
  · rename_i id args
    show(match H,Zi7 (Zdu e args) with | [],some l=>bnd (Zkj id l) fun r=>k (.d r) [] [] | _,_=>none)=on3 (match H,Zi7 (Zdu e args) with | [],some l=>(match Zkj id l with | some r=>ZaR (.d r) | none=>none) | _,_=>none) k
    cases H<;>cases Zi7 (Zdu e args)<;>try rfl
    rename_i l
    dsimp only
    rw[Zdq]
    cases Zkj id l<;>rfl
  · exact ZpV _ _ _ _ _
  · exact ZvB _ _ _
def ZmB (e:Env) (g:Option (Nat×Bool)) (x y:Option β):Option β:=
  match g with
  | none=>x
  | some (s,b)=>match e s with | .d (.bool t)=>brL (t==b) x y | .d (.tup [])=>y | _=>none
theorem Zp0 (e:Env) (g:Option (Nat×Bool)) (x y:Option β):ZmB e g x y=(match Zcr e g with | some true=>x | some false=>y | none=>none):=by
  unfold ZmB Zcr
  cases g with
  | none=>rfl
  | some p=>
    obtain⟨s,b⟩:=p
    dsimp only
    split<;>rename_i h
    · simp only[h,brL];rename_i t;cases h2:t==b<;>rfl
    · simp only[h]
    · split<;>simp_all
end
section
variable {β:Type}
def Zqj (e:Env) (dst:Option Nat) (H:Zd) (v:V) (up:List (Nat×Blk)) (nw:List Blk) (k:Env→Zd→Option β):Option β:=
  Zqy v fun v=>match dst with
    | some i=>(match up,nw with
      | [],[]=>k (e.set i v) H
      | up,nw=>Zjf (Zbd H up++nw) fun H=>k (e.set i v) H)
    | none=>(match up,nw with
      | [],[]=>k e H
      | up,nw=>Zjf (Zbd H up++nw) fun H=>k e H)
theorem ZrE (e:Env) (dst:Option Nat) (H:Zd) (v:V) (up:List (Nat×Blk)) (nw:List Blk) (k:Env→Zd→Option β):Zqj e dst H v up nw k=k (ZkK e dst v) (Zbd H up++nw):=by
  unfold Zqj
  rw[Zqx]
  cases dst<;>dsimp only[ZkK]
  all_goals
    split
    · simp[Zbd]
    · rw[Zh6]
def ZrR (e:Env) (dst:Option Nat) (k:Env→Option β):Option β:=match dst with | some i=>k (e.set i (.d (.tup []))) | none=>k e
theorem Zsy (e:Env) (dst:Option Nat) (k:Env→Option β):ZrR e dst k=k (ZkK e dst (.d (.tup []))):=by cases dst<;>rfl
def Ztb:O→Bool
  | .mov _=>true
  | .pick _ _ _=>true
  | .build _ _=>true
  | .bin _ _ _=>true
  | .eqv _ _ _ _=>true
  | .un _ _=>true
  | .conv _ _=>true
  | .mkfn _ _=>true
  | .field _ _ _ _=>true
  | .index _ _ _ _ _=>true
  | .indexS _ _=>true
  | .mx _ _=>true
  | .extract _ _=>true
  | .bslice _ _ 0 _=>true
  | .alloc _=>true
  | .box _=>true
  | _=>false
theorem Zvq {Γ:Ctx}{cf:Z4}{e:Env}{nid:Nat}{H H':Zd}{op:O} (h:Ztb op=true):opE Γ cf e nid H op=opE Γ cf e nid H' op:=by
  cases op<;>first | rfl | (cases h;done) | skip
  rename_i sz z len ps
  cases len with
  | zero=>rfl
  | succ n=>cases h
noncomputable def ZuF (Γ:Ctx) (cf:Z4) (l:List Op1) (e:Env) (H:Zd) (k:Env→Zd→Option β):Option β:=
  List.rec (motive:=fun _=>Env→Zd→(Env→Zd→Option β)→Option β) (fun e H k=>k e H)
    (fun o _ ih e H k=>ZmB e o.guard (ZbW H.length fun nid=>opK Γ cf e nid H o.op fun v up nw=>Zqj e o.dst H v up nw fun e H=>ih e H k) (ZrR e o.dst fun e=>ih e H k)) l e H k
theorem ZuM (Γ:Ctx) (cf:Z4) (o:Op1) (r:List Op1) (e:Env) (H:Zd) (k:Env→Zd→Option β) :
    ZuF Γ cf (o :: r) e H k=ZmB e o.guard (ZbW H.length fun nid=>opK Γ cf e nid H o.op fun v up nw=>Zqj e o.dst H v up nw fun e H=>ZuF Γ cf r e H k) (ZrR e o.dst fun e=>ZuF Γ cf r e H k):=rfl
theorem Zrc (Γ:Ctx) (cf:Z4):∀(l:List Op1) (e:Env) (H:Zd) (k:Env→Zd→Option β),ZuF Γ cf l e H k=(match Zem Γ cf l e H with | some (e,H)=>k e H | none=>none)
  | [],e,H,k=>rfl
  | o :: l,e,H,k=>by
    rw[ZuM]
    unfold Zem
    rw[Zp0,Zcn,ZqQ,Zsy]
    cases hw:Zcr e o.guard with
    | none=>rfl
    | some b=>
      cases b with
      | false=>exact Zrc Γ cf l _ _ k
      | true=>
        dsimp only
        cases ho:opE Γ cf e H.length H o.op with
        | none=>rfl
        | some q=>obtain⟨v,up,nw⟩:=q;simp only[on3,ZrE];exact Zrc Γ cf l _ _ k
def ZkF (l:List (Nat×Nat)) (k:List (Nat×Nat)→Option β):Option β:=
  match l with
  | []=>k []
  | p :: l=>ZbW p.1 fun a=>ZbW p.2 fun b=>ZkF l fun l=>k ((a,b) :: l)
theorem ZmC:∀(l:List (Nat×Nat)) (k:List (Nat×Nat)→Option β),ZkF l k=k l
  | [],k=>rfl
  | p :: l,k=>by unfold ZkF;rw[Zcn,Zcn,ZmC l]
def Zyt (o:O) (mask:List Nat) (H:Zd) (pos:List (Nat×Nat)) (k:Zd→Option β):Option β:=
  match Ztb o with
  | true=>k H
  | false=>(match mask with | []=>k H | mask=>Zjf (Ze7 H pos mask) k)
noncomputable def ZpL (Γ:Ctx) (cf:Z4) (pos:List (Nat×Nat)) (l:List Op1) (e:Env) (H:Zd) (k:Env→Zd→Option β):Option β:=
  List.rec (motive:=fun _=>List (Nat×Nat)→Env→Zd→(Env→Zd→Option β)→Option β) (fun _ e H k=>k e H)
    (fun o _ ih pos e H k=>ZmB e o.guard (ZbW H.length fun nid=>Zyt o.op o.mask H pos fun Hm=>opK Γ cf e nid Hm o.op fun v up nw=>
      (match ZnH e H o up nw with | true=>ZbW nw.length fun m=>ZkF (pos++[(nid,m)]) fun pos=>Zqj e o.dst H v up nw fun e' H'=>ih pos e' H' k | false=>none)) (ZrR e o.dst fun e'=>ZbW H.length fun nid=>ZkF (pos++[(nid,0)]) fun pos=>ih pos e' H k)) l pos e H k
theorem Zs5 (Γ:Ctx) (cf:Z4) (pos:List (Nat×Nat)) (o:Op1) (r:List Op1) (e:Env) (H:Zd) (k:Env→Zd→Option β) :
    ZpL Γ cf pos (o :: r) e H k=ZmB e o.guard (ZbW H.length fun nid=>Zyt o.op o.mask H pos fun Hm=>opK Γ cf e nid Hm o.op fun v up nw=>
      (match ZnH e H o up nw with | true=>ZbW nw.length fun m=>ZkF (pos++[(nid,m)]) fun pos=>Zqj e o.dst H v up nw fun e' H'=>ZpL Γ cf pos r e' H' k | false=>none)) (ZrR e o.dst fun e'=>ZbW H.length fun nid=>ZkF (pos++[(nid,0)]) fun pos=>ZpL Γ cf pos r e' H k):=rfl
theorem Zw7 (Γ:Ctx) (cf:Z4) (e:Env) (nid:Nat) (o:O) (mask:List Nat) (H:Zd) (pos:List (Nat×Nat)) (k:K3 β):(Zyt o mask H pos fun Hm=>opK Γ cf e nid Hm o k)=opK Γ cf e nid (Ze7 H pos mask) o k:=by
  unfold Zyt
  cases h:Ztb o with
  | true=>dsimp only;rw[ZqQ,ZqQ,Zvq h (H:=H) (H':=Ze7 H pos mask)]
  | false=>
    dsimp only
    cases mask with
    | nil=>rfl
    | cons a l=>dsimp only;rw[Zh6]
theorem Zo2 (Γ:Ctx) (cf:Z4):∀(l:List Op1) (pos:List (Nat×Nat)) (e:Env) (H:Zd) (k:Env→Zd→Option β),ZpL Γ cf pos l e H k=(match ZdW Γ cf pos l e H with | some (e,H)=>k e H | none=>none)
  | [],pos,e,H,k=>rfl
  | o :: l,pos,e,H,k=>by
    rw[Zs5]
    unfold ZdW
    rw[Zp0,Zcn,Zw7,ZqQ,Zsy,Zcn,ZmC]
    cases hw:Zcr e o.guard with
    | none=>rfl
    | some b=>
      cases b with
      | false=>exact Zo2 Γ cf l _ _ _ k
      | true=>
        dsimp only
        cases ho:opE Γ cf e H.length (Ze7 H pos o.mask) o.op with
        | none=>rfl
        | some q=>
          obtain⟨v,up,nw⟩:=q
          simp only[on3]
          cases hb:(ZnH e H o up nw)<;>simp only[cond_true,cond_false,ZrE,Zcn,ZmC]
          exact Zo2 Γ cf l _ _ _ k
noncomputable def lpW (Γ:Ctx) (k:Nat) (live outs:List Nat) (a:C) (vs:List V) (H:Zd):Option (Ex×List V×Zd):=
  itW (fun vs H=>Zc5 k live outs (Zx Γ (evW Γ) itW k a (Zb7 live vs) H)) vs H
noncomputable def ZfX (Γ:Ctx) (k0:Nat) (c:C) (e:Env) (H:Zd) (k:Ex→Env→Zd→Option β):Option β:=
  C.rec (motive:=fun _=>Env→Zd→(Ex→Env→Zd→Option β)→Option β)
    (fun e H k=>k .normal e H) (fun e H k=>k .ret e H) (fun id e H k=>k (.exit id) e H)
    (fun _ _ ia ib e H k=>ia e H fun x e H=>(match x with | .normal=>ib e H k | .exit i=>k (.exit i) e H | .ret=>k .ret e H))
    (fun x _ _ ia ib e H k=>(match x.val e with | .d (.bool t)=>brL t (ia e H k) (ib e H k) | _=>none))
    (fun id _ ia e H k=>ia e H fun x e H=>(match x with | .exit j=>(match Nat.beq j id with | true=>k .normal e H | false=>k (.exit j) e H) | .normal=>k .normal e H | .ret=>k .ret e H))
    (fun live outs a _ e H k=>ZmK k0 (live.map e) H fun vs H=>bnd (lpW Γ k0 live outs a vs H) fun r=>k r.1 (Zb7 outs r.2.1) r.2.2)
    (fun l e H k=>ZuF Γ (evW Γ) l e H fun e H=>k .normal e H)
    (fun l e H k=>ZpL Γ (evW Γ) [] l e H fun e H=>k .normal e H) c e H k
theorem Zk2 (Γ:Ctx) (k0:Nat):∀(c:C) (e:Env) (H:Zd) (k:Ex→Env→Zd→Option β),ZfX Γ k0 c e H k=(match Zx Γ (evW Γ) itW k0 c e H with | some (x,e,H)=>k x e H | none=>none):=by
  intro c
  induction c with
  | skip=>intros;rfl
  | ret=>intros;rfl
  | exit id=>intros;rfl
  | seq a b iha ihb=>
    intro e H k
    show(ZfX Γ k0 a e H fun x e H=>(match x with | .normal=>ZfX Γ k0 b e H k | .exit i=>k (.exit i) e H | .ret=>k .ret e H))=_
    unfold Zx
    rw[iha]
    cases h:Zx Γ (evW Γ) itW k0 a e H with
    | none=>rfl
    | some q=>
      obtain⟨x,e1,H1⟩:=q
      cases x with
      | normal=>exact ihb e1 H1 k
      | exit i=>rfl
      | ret=>rfl
  | cond x a b iha ihb=>
    intro e H k
    show(match x.val e with | .d (.bool t)=>brL t (ZfX Γ k0 a e H k) (ZfX Γ k0 b e H k) | _=>none)=_
    unfold Zx
    cases h:x.val e<;>try rfl
    rename_i y
    cases y<;>try rfl
    rename_i t
    cases t
    · exact ihb e H k
    · exact iha e H k
  | block id a iha=>
    intro e H k
    show(ZfX Γ k0 a e H fun x e H=>(match x with | .exit j=>(match Nat.beq j id with | true=>k .normal e H | false=>k (.exit j) e H) | .normal=>k .normal e H | .ret=>k .ret e H))=_
    unfold Zx
    rw[iha]
    cases h:Zx Γ (evW Γ) itW k0 a e H with
    | none=>rfl
    | some q=>
      obtain⟨x,e1,H1⟩:=q
      cases x with
      | normal=>rfl
      | exit j=>dsimp only;cases h2:Nat.beq j id<;>rfl
      | ret=>rfl
  | loop live outs a iha=>
    intro e H k
    show(ZmK k0 (live.map e) H fun vs H=>bnd (lpW Γ k0 live outs a vs H) fun r=>k r.1 (Zb7 outs r.2.1) r.2.2)=_
    unfold Zx
    rw[Zr6]
    cases h:Zm7 k0 (live.map e) H with
    | none=>rfl
    | some q=>
      obtain⟨vs,H1⟩:=q
      simp only[lpW,Zdq]
      cases h2:itW (fun vs H=>Zc5 k0 live outs (Zx Γ (evW Γ) itW k0 a (Zb7 live vs) H)) vs H1 with
      | none=>rfl
      | some r=>obtain⟨x,vs,H⟩:=r;rfl
  | ops l=>
    intro e H k
    show(ZuF Γ (evW Γ) l e H fun e H=>k .normal e H)=_
    unfold Zx
    rw[Zrc]
    cases h:Zem Γ (evW Γ) l e H<;>rfl
  | draw l=>
    intro e H k
    show(ZpL Γ (evW Γ) [] l e H fun e H=>k .normal e H)=_
    unfold Zx
    rw[Zo2]
    cases h:ZdW Γ (evW Γ) [] l e H<;>rfl
theorem ZzJ (Γ:Ctx) (k:Nat) (live outs:List Nat) (a:C) (vs:List V) (H:Zd) :
    lpW Γ k live outs a vs H=ZfX Γ k a (Zb7 live vs) H fun x e H=>(match x with
      | .normal=>ZmK k (live.map e) H fun vs H=>lpW Γ k live outs a vs H
      | x=>Zdw k (outs.map e) H fun _ vs H=>some (x,vs,H)):=by
  unfold lpW
  rw[Zzu,Zk2]
  cases h:Zx Γ (evW Γ) itW k a (Zb7 live vs) H with
  | none=>rfl
  | some q=>
    obtain⟨x,e,H1⟩:=q
    cases x with
    | normal=>
      simp only[Zc5]
      rw[Zr6]
      cases h2:Zm7 k (live.map e) H1 with
      | none=>rfl
      | some r=>obtain⟨vs,H2⟩:=r;rfl
    | exit j=>
      simp only[Zc5]
      rw[ZbH]
      cases h2:extract k (outs.map e) H1 with
      | none=>rfl
      | some r=>obtain⟨L,vs,H2⟩:=r;rfl
    | ret=>
      simp only[Zc5]
      rw[ZbH]
      cases h2:extract k (outs.map e) H1 with
      | none=>rfl
      | some r=>obtain⟨L,vs,H2⟩:=r;rfl
theorem Zzd (Γ:Ctx) (f:Nat) (fn:FnI) (args:List V) (H:Zd) (hc:Γ.code f=some fn) (hn:Nat.beq args.length fn.nargs=true) :
    evW Γ f args H=ZfX Γ H.length fn.body (Zbq 0 args) H fun x e H1=>(match x with
      | .exit _=>none
      | _=>(match ZhR e H1 fn.res with
        | some l=>Zdw H.length [ZeE l] H1 fun _ vs H2=>(match vs with | [v]=>some (v,H2) | _=>none)
        | none=>none)):=by
  rw[ZzS]
  unfold ZfN
  simp only[hc,hn,cond_true]
  rw[Zk2]
  cases h:Zx Γ (evW Γ) itW H.length fn.body (Zbq 0 args) H with
  | none=>rfl
  | some q=>
    obtain⟨x,e,H1⟩:=q
    cases x<;>try rfl
    all_goals
      dsimp only
      cases h2:ZhR e H1 fn.res with
      | none=>rfl
      | some l=>
        dsimp only
        rw[ZbH]
        cases h3:extract H.length [ZeE l] H1 with
        | none=>rfl
        | some q=>
          obtain⟨L,vs,H2⟩:=q
          match vs with
          | []=>rfl
          | [v]=>rfl
          | _ :: _ :: _=>rfl
end
theorem ZCv {β:Type} (x y:Option β):br true x y=x:=Zb0 _ _ _
theorem ZC0 {β:Type} (x y:Option β):br false x y=y:=Zb0 _ _ _
theorem ZrJ {β:Type} (x:Option β):bnd x some=x:=by rw[Zdq];cases x<;>rfl
attribute [irreducible] br bnd lpW
end Go.Proofs.YtgcfmiajkbbmeaaGreatE
namespace Go.Proofs.YtgcfmiajkbbmeaaGreatE
open Go
open Go.IntKind (u64 i64 u32 i32 u8)
structure ZCa where
 op:Int
 arg:Int
 work:Int
 deriving DecidableEq
structure Zt where
 src:Int
 dst:Int
 deriving DecidableEq
structure ZtI where
 maker:Int
 user:Int
 pos:Int
 deriving DecidableEq
structure ZrP where
 ins:List Int
 outs:List Int
 deriving DecidableEq
structure Zv5 where
 period:Int
 deadline:Int
 parts:List ZCa
 edges:List Zt
 futures:List ZtI
 barriers:List ZrP
 deriving DecidableEq
abbrev Za (n:Int):D:=.int .i64 n
abbrev Zct (τ:Bool) (l:List Int):D:=.list τ (l.map Za)
abbrev Zs (e:Zt):D:=.agg [Za e.src,Za e.dst]
theorem ZAa {n:Int} (h1 : -9223372036854775808≤n) (h2:n<9223372036854775808):i64.wrap n=n:=by
 show(if (true&&decide (n % 18446744073709551616 ≥ 9223372036854775808))=true then n % 18446744073709551616-18446744073709551616 else n % 18446744073709551616)=n
 by_cases h:n % 18446744073709551616 ≥ 9223372036854775808
 ·rw[decide_eq_true h];simp only[Bool.and_self,if_true];omega
 ·rw[decide_eq_false h];simp only[Bool.and_false,Bool.false_eq_true,if_false];omega
theorem ZwA {α:Type} (xs:List α) (i:Nat):ZI xs (i:Int)=xs[i]?:=by
 unfold ZI
 have:decide ((0:Int)≤i)=true:=by simp
 rw[this];simp[ZB]
theorem ZBP (Γ:Ctx) (k:Nat) (live outs:List Nat) (a:C) (vs:List V) (H:Zd) :
  lpW Γ k live outs a vs H=ZfX Γ k a (Zb7 live vs) H fun x e H=>(match x with
   | .normal=>ZmK k (live.map e) H fun vs H=>bnd (lpW Γ k live outs a vs H) some
   | x=>Zdw k (outs.map e) H fun _ vs H=>some (x,vs,H)):=by
 refine(ZzJ Γ k live outs a vs H).trans (congrArg (ZfX Γ k a (Zb7 live vs) H) ?_)
 funext x e H
 cases x
 ·exact congrArg (ZmK k (live.map e) H) (funext fun vs=>funext fun H=>(ZrJ _).symm)
 ·rfl
 ·rfl
theorem ZgY {α:Type}{f:α→D}{sz:Nat} (hf:∀x,(f x).cells.length=sz∧(V.d (f x)).okb=true) (l:List α) (i:Nat):Zhy sz (l.map f) i=true:=by
 unfold Zhy
 rw[ZB,List.getElem?_map]
 cases l[i]? with
 | none=>rfl
 | some x=>simp[hf x]
def first {α:Type} (p:α→Bool):Nat→List α→Option Nat
 | _,[]=>none
 | i,x :: l=>bif p x then some i else first p (i+1) l
theorem Zzv {Γ:Ctx}{f:Nat}{args:List V}{H:Zd}{r:V×Zd} (n:Nat) (h:evN Γ n f args H=some r):evW Γ f args H=some r:=(Zhe Γ f args H r).2 ⟨n,h⟩
theorem Zra {α:Type}{f:α→D}{p:α→Prop}:∀{xs:List D},(∀y∈xs,∃a,y=f a∧p a)→∃l:List α,xs=l.map f∧∀a∈l,p a
 | [],_=>⟨[],rfl,by simp⟩
 | x :: xs,h=>by
  obtain⟨a,ha,hp⟩:=h x (by simp)
  obtain⟨l,hl,hq⟩:=Zra (xs:=xs) fun y hy=>h y (by simp[hy])
  refine⟨a :: l,by rw[ha,hl];rfl,fun b hb=>?_⟩
  rcases List.mem_cons.1 hb with rfl | hb
  ·exact hp
  ·exact hq b hb
def I64 (n:Int):Prop:=-9223372036854775808≤n∧n<9223372036854775808
theorem Zrl {n:Int} (h:(Lit.int .i64 n).wf=true):I64 n:=by
 unfold Lit.wf at h
 simp only[Bool.and_eq_true,decide_eq_true_eq] at h
 have e1:i64.min = -9223372036854775808:=by decide
 have e2:i64.max=9223372036854775807:=by decide
 rw[e1,e2] at h
 unfold I64
 omega
theorem ZAh {y:D}{n:Nat} (h:y.isAgg=true):y = .agg y.cells:=by
 cases y<;>first | rfl | cases h
theorem ZyD {y:D} (h:y.isAgg=false):y.cells=[y]:=by
 cases y<;>first | rfl | cases h
theorem Zzh {n:Nat} (h:n≤maxLen):n<9223372036854775808:=by
 unfold maxLen at h;omega
def ZAG (l:List Int):Prop:=l.length<9223372036854775808∧∀n∈l,I64 n
theorem ZtS {x:D} (h:ZyF (.sl false [.int .i64]) x):∃l,x=Zct true l∧ZAG l:=by
 obtain⟨xs,rfl,h1,h2⟩:=h
 obtain⟨l,hl,hp⟩:=Zra (f:=Za) (p:=I64) (xs:=xs) fun y hy=>by
  obtain⟨a1,a2⟩:=h2 y hy
  rw[ZyD a1] at a2
  obtain⟨d,r,e1,⟨n,e2,e3⟩,_⟩:=a2
  cases e1
  exact⟨n,e2,Zrl e3⟩
 subst hl
 exact⟨l,rfl,by simpa using Zzh h1,hp⟩
def ZzX (e:Zt):Prop:=I64 e.src∧I64 e.dst
theorem Zym {x:D}{els:List Lf}{α:Type}{f:α→D}{p:α→Prop} (h:ZyF (.sl true els) x) (hf:∀cs,Zee els cs→∃a,D.agg cs=f a∧p a):∃l:List α,x = .list true (l.map f)∧l.length<9223372036854775808∧∀a∈l,p a:=by
 obtain⟨xs,rfl,h1,h2⟩:=h
 obtain⟨l,hl,hp⟩:=Zra (f:=f) (p:=p) (xs:=xs) fun y hy=>by
  obtain⟨a1,a2⟩:=h2 y hy
  rw[ZAh (n:=0) a1]
  exact hf _ a2
 subst hl
 exact⟨l,rfl,by simpa using Zzh h1,hp⟩
theorem Zz4 {xs:List D} (h:Zee [.int .i64] xs):∃n,Ziz false xs=Za n∧I64 n:=by
 obtain⟨_,_,rfl,⟨n,rfl,w⟩,rfl⟩:=h
 exact⟨n,rfl,Zrl w⟩
def lpN {S R:Type} (step:S→Option (S⊕R)):Nat→S→Option R
 | 0,_=>none
 | n+1,s=>(match step s with | some (.inl s')=>lpN step n s' | some (.inr r)=>some r | none=>none)
theorem ZsL {S R:Type} (step:S→Option (S⊕R)):∀(n m:Nat) (s:S) (r:R),n≤m→lpN step n s=some r→lpN step m s=some r
 | 0,_,_,_,_,h=>by cases h
 | n+1,0,_,_,hm,_=>by omega
 | n+1,m+1,s,r,hm,h=>by
  unfold lpN at h ⊢
  cases hs:step s with
  | none=>rw[hs] at h;cases h
  | some t=>
   rw[hs] at h
   cases t with
   | inl s'=>exact ZsL step n m s' r (by omega) h
   | inr r'=>exact h
noncomputable def lp {S R:Type} (step:S→Option (S⊕R)) (s:S):Option R:=@dite _ (∃n,(lpN step n s).isSome=true) (Classical.propDecidable _) (fun h=>lpN step (Classical.choose h) s) fun _=>none
theorem Zv7 {S R:Type}{step:S→Option (S⊕R)}{s:S}{r:R}{n:Nat} (h:lpN step n s=some r):lp step s=some r:=by
 unfold lp
 have hx:∃n,(lpN step n s).isSome=true:=⟨n,by rw[h];rfl⟩
 rw[dif_pos hx]
 have h2:=Classical.choose_spec hx
 cases h3:lpN step (Classical.choose hx) s with
 | none=>rw[h3] at h2;cases h2
 | some q=>
  have h4:=ZsL step _ (max n (Classical.choose hx)) s q (by omega) h3
  have h5:=ZsL step _ (max n (Classical.choose hx)) s r (by omega) h
  rw[h4] at h5
  exact h5
theorem Zxc {S R:Type}{step:S→Option (S⊕R)}{s:S}{r:R} (h:lp step s=some r):∃n,lpN step n s=some r:=by
 unfold lp at h
 split at h
 ·exact⟨_,h⟩
 ·cases h
theorem ZaI {S R:Type} (step:S→Option (S⊕R)) (s:S):lp step s=(match step s with | some (.inl s')=>lp step s' | some (.inr r)=>some r | none=>none):=by
 have key:∀r,lp step s=some r↔(match step s with | some (.inl s')=>lp step s' | some (.inr r)=>some r | none=>none)=some r:=by
  intro r
  constructor
  ·intro h
   obtain⟨n,hn⟩:=Zxc h
   cases n with
   | zero=>cases hn
   | succ n=>
    unfold lpN at hn
    cases hs:step s with
    | none=>rw[hs] at hn;cases hn
    | some t=>
     rw[hs] at hn
     cases t with
     | inl s'=>exact Zv7 hn
     | inr r'=>exact hn
  ·intro h
   cases hs:step s with
   | none=>rw[hs] at h;cases h
   | some t=>
    rw[hs] at h
    cases t with
    | inl s'=>
     obtain⟨n,hn⟩:=Zxc h
     exact Zv7 (n:=n+1) (by unfold lpN;rw[hs];exact hn)
    | inr r'=>exact Zv7 (n:=1) (by unfold lpN;rw[hs];exact h)
 cases h1:lp step s with
 | some r=>exact((key r).1 h1).symm
 | none=>
  cases h2:(match step s with | some (.inl s')=>lp step s' | some (.inr r)=>some r | none=>none) with
  | none=>rfl
  | some r=>rw[(key r).2 h2] at h1;cases h1
def ZbN {α β:Type} (E:Option α) (Q:α→Option β→Prop) (rhs:Option β):Prop:=∀a,E=some a→Q a rhs
section
variable {α β:Type} {A B:Option α} {Q:α→Option β→Prop}
theorem Za6 {c c':Bool}{X Y:Option β} (h:c=c') (h1:ZbN A Q X) (h2:ZbN B Q Y):ZbN (bif c' then A else B) Q (br c X Y):=by
 subst h
 cases c with
 | true=>rw[ZCv];exact h1
 | false=>rw[ZC0];exact h2
theorem Zlx {c:Bool}{X Y:Option β} (h:c=true) (h1:ZbN A Q X):ZbN A Q (br c X Y):=by rw[h,ZCv];exact h1
theorem ZBN {c:Bool}{X Y:Option β} (h:c=false) (h1:ZbN A Q Y):ZbN A Q (br c X Y):=by rw[h,ZC0];exact h1
theorem Zf {γ:Type}{x x':γ}{K:γ→Option β} (h:x=x') (k:ZbN A Q (K x')):ZbN A Q (bnd (some x) K):=by rw[h,Zi5];exact k
theorem Zo {γ:Type}{X:Option γ}{x:γ}{K:γ→Option β} (h:X=some x) (k:ZbN A Q (K x)):ZbN A Q (bnd X K):=by rw[h,Zi5];exact k
theorem Ze {γ δ:Type}{E:Option γ}{A:γ→Option α}{X:Option δ}{K:δ→Option β} (enc:γ→δ) (h:∀r,E=some r→X=some (enc r)) (k:∀r,E=some r→ZbN (A r) Q (K (enc r))):ZbN (E.bind A) Q (bnd X K):=by
 intro a ha
 cases hE:E with
 | none=>rw[hE] at ha;cases ha
 | some r=>
  rw[hE] at ha
  rw[h r hE,Zi5]
  exact k r hE a ha
theorem Zsr {γ δ:Type} (f:γ→δ) (l:List γ) (i:Int):ZI (l.map f) i=(ZI l i).map f:=by
 unfold ZI
 cases decide (0≤i) with
 | false=>rfl
 | true=>simp only[cond_true,ZB,List.getElem?_map]
theorem Zya {γ:Type}{f:γ→D}{l:List γ}{xs:List D}{i i':Int}{A:γ→Option α}{K:D→Option β} (hx:xs=l.map f) (hi:i=i') (k:∀r,ZI l i'=some r→ZbN (A r) Q (K (f r))):ZbN ((ZI l i').bind A) Q (bnd (ZI xs i) K):=by
 subst hx hi
 exact Ze f (fun r h=>by rw[Zsr,h];rfl) k
theorem Zad {γ:Type}{f:γ→D}{l:List γ}{xs:List D}{i:Int}{r:γ} (hx:xs=l.map f) (h:ZI l i=some r):nth xs i.toNat=some (f r):=by
 subst hx
 unfold ZI at h
 cases hd:decide (0≤i) with
 | false=>rw[hd] at h;cases h
 | true=>rw[hd,cond_true,ZB] at h;rw[ZB,List.getElem?_map,h];rfl
theorem Zar {γ:Type}{f:γ→D}{l:List γ}{xs:List D}{i:Int}{r:γ} (hx:xs=l.map f) (h:ZI l i=some r):ZI xs i=some (f r):=by
 subst hx
 rw[Zsr,h];rfl
theorem ZoI:∀l:List Int,Zf3 (List.map Za l)=some l
 | []=>rfl
 | x :: r=>by
  show(match Zf3 (List.map Za r) with | some l=>some (x :: l) | none=>none)=_
  rw[ZoI r]
theorem Zsv {H:Zd}{b:Nat}{m:List Int} (h:nth H b=some (.arr 1 (List.map Za m))):Zp8 H (.sl b 1)=some (b,m):=by
 show(match nth H b with | some (.arr 1 xs)=>(match Zf3 xs with | some zs=>some (b,zs) | none=>none) | _=>none)=_
 rw[h]
 show(match Zf3 (List.map Za m) with | some zs=>some (b,zs) | none=>none)=_
 rw[ZoI]
theorem Zm {a:α}{X:Option β} (h:Q a X):ZbN (some a) Q X:=fun b hb=>by cases hb;exact h
theorem Z8 {X:Option β}:ZbN (none:Option α) Q X:=fun b hb=>by cases hb
theorem ZtQ {γ:Type} (f:γ→D) (l:List γ):Nat.blt 0 (List.map f l).length=Nat.blt 0 (List.length l):=by rw[List.length_map]
noncomputable def evD (Γ:Ctx) (f:Nat) (args:List V):Option D:=bnd (evW Γ f args []) fun r=>(match fr r.2 6 r.1 with | some (x,_)=>some x | none=>none)
theorem Zvd (Γ:Ctx) (f:Nat) (args:List V) (K:V→Option β):bnd (evW Γ f args []) (ZmF K)=bnd (evD Γ f args) (fun x=>Zux x K):=by
 unfold evD ZmF
 simp only[Zdq]
 cases evW Γ f args [] with
 | none=>rfl
 | some r=>
  dsimp only
  cases fr r.2 6 r.1 with
  | none=>rfl
  | some q=>rfl
theorem Zw5 {γ:Type}{Γ:Ctx}{f:Nat}{args args':List V}{E:Option γ}{A:γ→Option α}{K:V→Option β} (enc:γ→D) (w:∀r,E=some r→evD Γ f args'=some (enc r)) (ha:args=args') (k:∀r,E=some r→ZbN (A r) Q (Zux (enc r) K)):ZbN (E.bind A) Q (bnd (evW Γ f args []) (ZmF K)):=by
 subst ha
 rw[Zvd]
 exact Ze enc w k
end
theorem Zuz {β δ:Type} (Γ:Ctx) (k0:Nat) (c:C) (e:Env) (H:Zd) (k:Ex→Env→Zd→Option β) (p:β→Option δ):bnd (ZfX Γ k0 c e H k) p=ZfX Γ k0 c e H fun x e H=>bnd (k x e H) p:=by
 rw[Zk2,Zk2]
 cases Zx Γ (evW Γ) itW k0 c e H with
 | none=>exact Zdq _ _
 | some q=>rfl
theorem ZBy (Γ:Ctx) (f:Nat) (fn:FnI) (args:List V) (hc:Γ.code f=some fn) (hn:Nat.beq args.length fn.nargs=true) :
  evD Γ f args=ZfX Γ 0 fn.body (Zbq 0 args) [] fun x e H1=>(match x with
   | .exit _=>none
   | _=>(match ZhR e H1 fn.res with
    | some l=>Zdw 0 [ZeE l] H1 fun _ vs H2=>(match vs with | [v]=>(match fr H2 6 v with | some (x,_)=>some x | none=>none) | _=>none)
    | none=>none)):=by
 unfold evD
 rw[Zzd Γ f fn args [] hc hn,Zuz]
 refine congrArg (ZfX Γ 0 fn.body (Zbq 0 args) []) ?_
 funext x e H1
 have none_b:∀{γ δ:Type} (p:γ→Option δ),bnd none p=none:=fun p=>Zdq _ _
 cases x with
 | exit j=>exact none_b _
 | normal=>
  dsimp only
  cases ZhR e H1 fn.res with
  | none=>exact none_b _
  | some l=>
   dsimp only
   rw[ZbH,ZbH]
   show bnd (match extract 0 [ZeE l] H1 with | some (L,vs,H)=>_ | none=>none) _=_
   cases extract 0 [ZeE l] H1 with
   | none=>exact none_b _
   | some q=>
    obtain⟨L,vs,H2⟩:=q
    match vs with
    | []=>exact none_b _
    | [v]=>exact Zi5 _ _
    | _ :: _ :: _=>exact none_b _
 | ret=>
  dsimp only
  cases ZhR e H1 fn.res with
  | none=>exact none_b _
  | some l=>
   dsimp only
   rw[ZbH,ZbH]
   show bnd (match extract 0 [ZeE l] H1 with | some (L,vs,H)=>_ | none=>none) _=_
   cases extract 0 [ZeE l] H1 with
   | none=>exact none_b _
   | some q=>
    obtain⟨L,vs,H2⟩:=q
    match vs with
    | []=>exact none_b _
    | [v]=>exact Zi5 _ _
    | _ :: _ :: _=>exact none_b _
theorem ZAl {Γ:Ctx}{f:Nat}{args:List V}{x:D} (n:Nat) (h:(match evN Γ n f args [] with | some (v,H)=>(match fr H 6 v with | some (x,_)=>some x | none=>none) | none=>none)=some x):evD Γ f args=some x:=by
 cases hn:evN Γ n f args [] with
 | none=>rw[hn] at h;cases h
 | some r=>
  rw[hn] at h
  obtain⟨v,H⟩:=r
  unfold evD
  rw[Zzv n hn,Zi5]
  exact h
theorem ZBh {S R β:Type}{step:S→Option (S⊕R)}{G:S→Option β} (x:R→β)
  (h:∀(s:S) (rec:S→Option R),(∀s r,rec s=some r→G s=some (x r))→ZbN (step s) (fun t rhs=>(match t with | .inl s'=>∀r,rec s'=some r→rhs=some (x r) | .inr r=>rhs=some (x r))) (G s)):∀s r,lp step s=some r→G s=some (x r):=by
 intro s r hr
 obtain⟨n,hn⟩:=Zxc hr
 clear hr
 induction n generalizing s r with
 | zero=>cases hn
 | succ n ih=>
  unfold lpN at hn
  cases hs:step s with
  | none=>rw[hs] at hn;cases hn
  | some t=>
   rw[hs] at hn
   have:=h s (lpN step n) ih t hs
   cases t with
   | inl s'=>exact this r hn
   | inr r'=>cases hn;exact this
theorem Zg {S R β:Type}{G:Option β}{rec:S→Option R}{x:R→β}{s':S} (h:∀r,rec s'=some r→G=some (x r)):ZbN (some (Sum.inl s')) (fun(t:S⊕R) (rhs:Option β)=>(match t with | .inl s'=>∀r,rec s'=some r→rhs=some (x r) | .inr r=>rhs=some (x r))) (bnd G some):=by
 intro a ha
 cases ha
 intro r hr
 rw[ZrJ]
 exact h r hr
theorem ZxV {Γ:Ctx}{f:Nat}{args:List V} (h:evD Γ f args=some (.bool true)):∃H',evW Γ f args []=some (.d (.bool true),H'):=by
 unfold evD at h
 rw[Zdq] at h
 cases he:evW Γ f args [] with
 | none=>rw[he] at h;cases h
 | some r=>
  obtain⟨v,H⟩:=r
  rw[he] at h
  refine⟨H,?_⟩
  dsimp only at h
  cases hf:fr H 6 v with
  | none=>rw[hf] at h;cases h
  | some q=>
   obtain⟨x,ks⟩:=q
   rw[hf] at h
   cases h
   unfold fr at hf
   split at hf
   ·rename_i x
    split at hf
    ·rename_i ts
     cases he:Ztu ts<;>rw[he] at hf<;>cases hf
    ·rename_i y hy
     cases he:x.esc<;>rw[he] at hf<;>cases hf
     rfl
   all_goals
    first
    | cases hf
    | (split at hf<;>first | cases hf | (rename_i sz' xs _;revert hf;cases Nat.beq _ sz'<;>intro hf<;>cases hf) | skip)
   all_goals
    rename_i l ks _
    first
    | (cases he:D.escs l<;>rw[he] at hf<;>cases hf)
    | cases hf
theorem ZvH {α β:Type}{A B:Option α}{Q:α→Option β→Prop}{X:Option β} (h:ZbN A Q X):ZbN (bif true then A else B) Q X:=h
theorem Zxp {α β:Type}{A B:Option α}{Q:α→Option β→Prop}{X:Option β} (h:ZbN B Q X):ZbN (bif false then A else B) Q X:=h
abbrev w64 (n:Int):Int:=i64.wrap n
section
variable {γ:Type}
theorem Zr (f:γ→D) (l:List γ):(((List.map f l).length:Nat):Int)=((l.length:Nat):Int):=by rw[List.length_map]
theorem ZiA (f:γ→D) (z:γ) (n:Int):List.replicate n.toNat (f z)=List.map f (List.replicate n.toNat z):=by rw[List.map_replicate]
theorem Zqh {α:Type}:∀(l:List α) (i:Nat) (y:α),ZcD l i y=l.set i y
 | [],_,_=>rfl
 | _ :: _,0,_=>rfl
 | x :: l,i+1,y=>congrArg (x :: ·) (Zqh l i y)
theorem Zcw (f:γ→D) (l:List γ) (i:Nat) (y:γ):ZcD (List.map f l) i (f y)=List.map f (List.set l i y):=by rw[Zqh,List.map_set]
theorem ZeZ (f:γ→D) (l m:List γ):List.map f l++List.map f m=List.map f (l++m):=by rw[List.map_append]
theorem Ze4 (f:γ→D) (l:List γ) (n:Nat):Nat.ble ((List.map f l).length+n) lim=Nat.ble (l.length+n) lim:=by rw[List.length_map]
theorem Zig (f:γ→D) (l:List γ):Nat.ble (List.map f l).length lim=Nat.ble l.length lim:=by rw[List.length_map]
theorem Zxx (f:γ→D) (l:List γ) (o n:Nat):List.take n (List.drop o (List.map f l))=List.map f (List.take n (List.drop o l)):=by rw[← List.map_drop,← List.map_take]
theorem Zre (f:γ→D) (l:List γ) (hi:Nat):List.take (hi-0) (List.drop 0 (List.map f l))=List.map f (List.take hi l):=by rw[Zxx];rfl
theorem ZoJ (f:γ→D) (l:List γ) (lo:Nat):List.take ((List.map f l).length-lo) (List.drop lo (List.map f l))=List.map f (List.drop lo l):=by
 rw[Zxx,List.length_map,List.take_of_length_le (by rw[List.length_drop];exact Nat.le_refl _)]
theorem Zv4 (f:γ→D) {sz:Nat} (hf:∀x,(f x).cells.length=sz∧(V.d (f x)).okb=true) (l:List γ) (i:Nat):(Nat.beq i 0 || Zhy sz (List.map f l) i)=true:=by rw[ZgY hf,Bool.or_true]
theorem Zrs (f:γ→D) (l:List γ) (lo:Nat):(Nat.ble lo (List.map f l).length&&Nat.ble (List.map f l).length (List.map f l).length)=Nat.ble lo l.length:=by rw[List.length_map,Nat.ble_eq_true_of_le (Nat.le_refl l.length),Bool.and_true]
theorem ZwE (f:γ→D) (l:List γ) (hi:Nat):(Nat.ble 0 hi&&Nat.ble hi (List.map f l).length)=Nat.ble hi l.length:=by rw[List.length_map];cases hi<;>rfl
end
end Go.Proofs.YtgcfmiajkbbmeaaGreatE
namespace Go.Proofs.YtgcfmiajkbbmeaaGreatE
open Go
open Go.IntKind (u64 i64 u32 i32 u8)
theorem Zds {i n:Nat} (h:i<n):decide ((i:Int)<(n:Int))=true:=decide_eq_true (by omega)
theorem Zdz (n:Nat):decide ((n:Int)<(n:Int))=false:=decide_eq_false (by omega)
theorem ZE {γ:Type}{l:List γ}{i:Nat}{x:γ} (h:l[i]? = some x):ZI l (i:Int)=some x:=(ZwA l i).trans h
theorem Zrn {γ:Type}{l:List γ}{i:Int}{x:γ} (h0:0≤i) (h:l[i.toNat]? = some x):ZI l i=some x:=by
 have:=ZE h
 rwa [Int.toNat_of_nonneg h0] at this
theorem Zdo {n:Int} (h1 : -9223372036854775808≤n) (h2:n<9223372036854775808):w64 n=n:=ZAa h1 h2
theorem ZR {i n:Nat} (h:i<n) (hn:n<9223372036854775808):w64 ((i:Int)+1)=((i+1:Nat):Int):=by rw[Zdo (by omega) (by omega)];omega
theorem ZeU {n:Nat} (h:n≤1073741824):Nat.ble n lim=true:=Nat.ble_eq_true_of_le h
def Zpo {γ S R:Type} (f:Nat→γ→S→Option (S⊕R)) (fin:S→Option R):Nat→List γ→S→Option R
 | _,[],s=>fin s
 | i,x :: l,s=>(match f i x s with | some (.inl s')=>Zpo f fin (i+1) l s' | some (.inr r)=>some r | none=>none)
theorem ZtL {γ S St R:Type} (l:List γ) (step:St→Option (St⊕R)) (st:Nat→S→St) (f:Nat→γ→S→Option (S⊕R)) (fin:S→Option R)
  (h1:∀i x s,i<l.length→l[i]? = some x→step (st i s)=(match f i x s with | some (.inl s')=>some (.inl (st (i+1) s')) | some (.inr r)=>some (.inr r) | none=>none))
  (h2:∀s,step (st l.length s)=(fin s).map Sum.inr):∀s,lp step (st 0 s)=Zpo f fin 0 l s:=by
 have key:∀(k i:Nat) (s:S),i+k=l.length→lp step (st i s)=Zpo f fin i (l.drop i) s:=by
  intro k
  induction k with
  | zero=>
   intro i s hi
   have:i=l.length:=by omega
   subst this
   rw[List.drop_length,ZaI,h2]
   unfold Zpo
   cases fin s<;>rfl
  | succ k ih=>
   intro i s hi
   have hi':i<l.length:=by omega
   rw[List.drop_eq_getElem_cons hi',ZaI,h1 i l[i] s hi' (List.getElem?_eq_getElem hi')]
   conv=>rhs;unfold Zpo
   cases f i l[i] s with
   | none=>rfl
   | some t=>
    cases t with
    | inl s'=>exact ih (i+1) s' (by omega)
    | inr r=>rfl
 intro s
 have:=key l.length 0 s (by omega)
 rwa [List.drop_zero] at this
def ZiP {γ R:Type} (p:Nat→γ→Bool) (out:Nat→γ→R) (fin:R):Nat→List γ→R
 | _,[]=>fin
 | i,x :: l=>bif p i x then out i x else ZiP p out fin (i+1) l
theorem ZjO {γ R:Type} (l:List γ) (step:Int→Option (Int⊕R)) (p:Nat→γ→Bool) (out:Nat→γ→R) (fin:R)
  (h1:∀i x,i<l.length→l[i]? = some x→step (i:Int)=some (bif p i x then .inr (out i x) else .inl ((i+1:Nat):Int)))
  (h2:step (l.length:Int)=some (.inr fin)):lp step 0=some (ZiP p out fin 0 l):=by
 have key:=ZtL (S:=Unit) l step (fun i _=>(i:Int)) (fun i x _=>some (bif p i x then .inr (out i x) else .inl ())) (fun _=>some fin)
  (fun i x s hi hx=>by rw[h1 i x hi hx];cases p i x<;>rfl) (fun _=>h2) ()
 refine(key:lp step 0=_).trans ?_
 have:∀(l:List γ) (i:Nat),Zpo (S:=Unit) (fun i x _=>some (bif p i x then Sum.inr (out i x) else Sum.inl ())) (fun _=>some fin) i l ()=some (ZiP p out fin i l):=by
  intro l
  induction l with
  | nil=>intro i;rfl
  | cons x l ih=>
   intro i
   unfold Zpo ZiP
   cases p i x with
   | true=>rfl
   | false=>exact ih (i+1)
 exact this l 0
def ZkP {γ:Type} (p:Nat→γ→Bool):Nat→List γ→Bool
 | _,[]=>false
 | i,x :: l=>p i x || ZkP p (i+1) l
theorem Zry {γ:Type} (p:γ→Bool):∀(l:List γ) (i:Nat),ZkP (fun _=>p) i l=l.any p
 | [],_=>rfl
 | x :: l,i=>by rw[ZkP,List.any_cons,Zry p l]
theorem Zit {γ R:Type} (p:Nat→γ→Bool) (c fin:R):∀(l:List γ) (i:Nat),ZiP p (fun _ _=>c) fin i l=bif ZkP p i l then c else fin
 | [],_=>rfl
 | x :: l,i=>by
  unfold ZiP ZkP
  rw[Zit p c fin l (i+1)]
  cases p i x<;>rfl
theorem Zom {γ R:Type} (p:γ→Bool) (fin:R):∀(l:List γ) (i:Nat),(∃j:Nat,ZiP (fun _=>p) (fun i _=>(Sum.inl (i:Int):Int⊕R)) (.inr fin) i l = .inl (j:Int)∧l.any p=true)∨(ZiP (fun _=>p) (fun i _=>(Sum.inl (i:Int):Int⊕R)) (.inr fin) i l = .inr fin∧l.any p=false)
 | [],_=>.inr ⟨rfl,rfl⟩
 | x :: l,i=>by
  unfold ZiP
  rw[List.any_cons]
  cases h:p x with
  | true=>exact .inl ⟨i,rfl,rfl⟩
  | false=>simpa using Zom p fin l (i+1)
theorem ZrQ {γ:Type} (p:Nat→γ→Bool):∀(l:List γ) (i:Nat),ZkP p i l=true↔∃j x,l[j]? = some x∧p (i+j) x=true
 | [],i=>by simp[ZkP]
 | x :: l,i=>by
  rw[ZkP,Bool.or_eq_true,ZrQ p l (i+1)]
  constructor
  ·rintro (h | ⟨j,y,hj,hp⟩)
   ·exact⟨0,x,rfl,h⟩
   ·exact⟨j+1,y,by simpa using hj,by rw[show i+(j+1)=i+1+j by omega];exact hp⟩
  ·rintro ⟨j,y,hj,hp⟩
   cases j with
   | zero=>left;simp at hj;subst hj;exact hp
   | succ j=>right;exact⟨j,y,by simpa using hj,by rw[show i+1+j=i+(j+1) by omega];exact hp⟩
end Go.Proofs.YtgcfmiajkbbmeaaGreatE
namespace Go.Proofs.YtgcfmiajkbbmeaaGreat
open Go Go.Proofs.YtgcfmiajkbbmeaaGreatE
open Go.IntKind (u64 i64 u32 i32 u8)
def lf (left:List Int) (n:Int):Int:=match left[n.toNat]? with | some x=>x | none=>0
theorem Zhz {left:List Int}{n:Int} (h0:0≤n) (h:n.toNat<left.length):left[n.toNat]? = some (lf left n):=by
  unfold lf
  rw[List.getElem?_eq_getElem h]
theorem ZxS {left:List Int}{i:Nat}{x:Int} (h:left[i]? = some x):lf left (i:Int)=x:=by
  unfold lf
  rw[Int.toNat_natCast,h]
theorem ZkQ {left:List Int}{n v k:Int} (hn:0≤n∧n.toNat<left.length) (hk:0≤k):lf (left.set n.toNat v) k=if k=n then v else lf left k:=by
  unfold lf
  rw[List.getElem?_set]
  by_cases h:n.toNat=k.toNat
  · rw[if_pos h,if_pos hn.2,if_pos (by omega)]
  · rw[if_neg h,if_neg (by omega)]
def isN (left:List Int) (n:Int):Prop:=0≤n∧n.toNat<left.length
def Zji (E:List Zt) (left:List Int) (n:Int):Prop:=∀e∈E,e.dst=n→lf left e.src=0
def Rdy (E:List Zt) (left on:List Int) (n:Int):Prop:=isN left n∧0<lf left n∧n∉on∧Zji E left n
def ZlK (row:List Int):Prop:=∀(i j:Nat) (n:Int),row[i]? = some n→row[j]? = some n→n ≠ -1→i=j
structure ZeD (E:List Zt) (left on:List Int):Prop where
  rng:∀x∈left,0≤x∧x≤1000
  run:∀n∈on,n = -1∨(isN left n∧0<lf left n∧Zji E left n)
  one:ZlK on
  over:∀n,isN left n→lf left n=0→Zji E left n
structure ZdQ (E:List Zt) (left on row:List Int):Prop where
  len:row.length=on.length
  keep:∀(c:Nat) (n:Int),on[c]? = some n→n ≠ -1→row[c]? = some n
  new:∀(c:Nat) (n:Int),on[c]? = some (-1)→row[c]? = some n→n = -1∨Rdy E left on n
  one:ZlK row
  all : -1∈row→∀n,¬Rdy E left row n
def dec (left:List Int) (n:Int):List Int:=if n = -1 then left else left.set n.toNat (lf left n-1)
def ZF (left row:List Int):List Int:=row.foldl dec left
def ZJ (left row:List Int):List Int:=row.map fun n=>if n = -1 then -1 else if lf (ZF left row) n=0 then -1 else n
theorem Znt (left:List Int) (n:Int):(dec left n).length=left.length:=by unfold dec;split<;>simp
theorem Zcp:∀(row left:List Int),(ZF left row).length=left.length
  | [],_=>rfl
  | n :: row,left=>by
    show(ZF (dec left n) row).length=_
    rw[Zcp row,Znt]
theorem ZlK.tail {n:Int}{row:List Int} (h:ZlK (n :: row)):ZlK row∧(n ≠ -1→n∉row):=by
  refine⟨fun i j k h1 h2 h3=>?_,fun hn hm=>?_⟩
  · have:=h (i+1) (j+1) k h1 h2 h3
    omega
  · obtain⟨i,hi⟩:=List.getElem?_of_mem hm
    have:=h 0 (i+1) n rfl hi hn
    omega
theorem ZjB:∀(row left:List Int),ZlK row→(∀n∈row,n = -1∨isN left n)→∀k,0≤k→lf (ZF left row) k=if k∈row then lf left k-1 else lf left k
  | [],left,_,_,k,_=>by simp[ZF]
  | n :: row,left,ho,hr,k,hk=>by
    obtain⟨ho1,ho2⟩:=ho.tail
    have ih:=ZjB row (dec left n) ho1 (fun m hm=>by
      rcases hr m (by simp[hm]) with h | h
      · exact .inl h
      · exact .inr ⟨h.1,by rw[Znt];exact h.2⟩) k hk
    show lf (ZF (dec left n) row) k=_
    rw[ih]
    by_cases hn:n = -1
    · have e:dec left n=left:=by unfold dec;rw[if_pos hn]
      rw[e]
      have:(k∈n :: row)=(k∈row):=by
        rw[List.mem_cons]
        exact propext ⟨fun h => by rcases h with h | h; · omega
                                   · exact h,.inr⟩
      simp only[this]
    · have hin:isN left n:=by
        rcases hr n (by simp) with h | h
        · exact absurd h hn
        · exact h
      have e:lf (dec left n) k=if k=n then lf left n-1 else lf left k:=by
        unfold dec
        rw[if_neg hn]
        exact ZkQ hin hk
      rw[e]
      by_cases hkn:k=n
      · subst hkn
        rw[if_neg (ho2 hn),if_pos rfl,if_pos (by simp)]
      · rw[if_neg hkn]
        have:(k∈n :: row)=(k∈row):=by
          rw[List.mem_cons]
          exact propext ⟨fun h => by rcases h with h | h; · exact absurd h hkn
                                     · exact h,.inr⟩
        simp only[this]
def busy (row:List Int):Nat:=row.countP fun n=>n != -1
theorem ZyY {l:List Int}{i:Nat}{x v:Int} (h:l[i]? = some x):(l.set i v).sum=l.sum-x+v:=by
  induction l generalizing i with
  | nil=>cases h
  | cons a l ih=>
    cases i with
    | zero=>
      have:a=x:=Option.some.inj h
      subst this
      simp only[List.set_cons_zero,List.sum_cons]
      omega
    | succ i=>
      have h:l[i]? = some x:=h
      simp only[List.set_cons_succ,List.sum_cons,ih h]
      omega
theorem Zmu:∀(row left:List Int),(∀n∈row,n = -1∨isN left n)→(ZF left row).sum=left.sum-(busy row:Int)
  | [],left,_=>by simp[ZF,busy]
  | n :: row,left,hr=>by
    have ih:=Zmu row (dec left n) (fun m hm=>by
      rcases hr m (by simp[hm]) with h | h
      · exact .inl h
      · exact .inr ⟨h.1,by rw[Znt];exact h.2⟩)
    show(ZF (dec left n) row).sum=_
    rw[ih]
    unfold busy
    by_cases hn:n = -1
    · rw[List.countP_cons_of_neg (by simp[hn])]
      unfold dec
      rw[if_pos hn]
    · have hin:isN left n:=by
        rcases hr n (by simp) with h | h
        · exact absurd h hn
        · exact h
      rw[List.countP_cons_of_pos (by simp[hn])]
      unfold dec
      rw[if_neg hn,ZyY (Zhz hin.1 hin.2)]
      omega
theorem ZdQ.row_in {E:List Zt}{left on row:List Int} (f:ZdQ E left on row) (c:ZeD E left on):∀n∈row,n = -1∨(isN left n∧0<lf left n∧Zji E left n):=fun n hn=>by
  obtain⟨i,hi⟩:=List.getElem?_of_mem hn
  have hl:i<on.length:=by rw[← f.len];exact(List.getElem?_eq_some_iff.1 hi).1
  have ho:=List.getElem?_eq_getElem hl
  by_cases h:on[i] = -1
  · rw[h] at ho
    rcases f.new i n ho hi with h1 | ⟨h1,h2,_,h4⟩
    · exact .inl h1
    · exact .inr ⟨h1,h2,h4⟩
  · have:=f.keep i _ ho h
    rw[hi] at this
    have:=Option.some.inj this
    rw[this]
    exact c.run _ (List.getElem_mem hl)
theorem ZdQ.nodes {E:List Zt}{left on row:List Int} (f:ZdQ E left on row) (c:ZeD E left on):∀n∈row,n = -1∨isN left n:=fun n hn=>by
  rcases f.row_in c n hn with h | h
  · exact .inl h
  · exact .inr h.1
theorem ZqR {E:List Zt}{left on:List Int} (c:ZeD E left on) (n:Int):0≤lf left n∧lf left n≤1000:=by
  unfold lf
  cases h:left[n.toNat]? with
  | none=>simp
  | some x=>exact c.rng x (List.mem_of_getElem? h)
theorem ZdQ.tick_lf {E:List Zt}{left on row:List Int} (f:ZdQ E left on row) (c:ZeD E left on) {k:Int} (hk:0≤k):lf (ZF left row) k=if k∈row then lf left k-1 else lf left k:=ZjB row left f.one (f.nodes c) k hk
theorem ZdQ.tick_le {E:List Zt}{left on row:List Int} (f:ZdQ E left on row) (c:ZeD E left on) {k:Int} (hk:0≤k):lf (ZF left row) k≤lf left k:=by
  rw[f.tick_lf c hk]
  split<;>omega
def ZeV (E:List Zt) (n:Nat):Prop:=∀e∈E,(0≤e.src∧e.src.toNat<n)∧(0≤e.dst∧e.dst.toNat<n)
theorem ZdQ.free {E:List Zt}{left on row:List Int} (hE:ZeV E left.length) (f:ZdQ E left on row) (c:ZeD E left on) {n:Int} (h:Zji E left n):Zji E (ZF left row) n:=fun e he hd=>by
  have h1:=h e he hd
  have h0:=(hE e he).1
  rw[f.tick_lf c h0.1]
  split
  · rename_i hm
    rcases f.row_in c _ hm with h2 | ⟨_,h2,_⟩
    · omega
    · omega
  · exact h1
theorem ZdQ.next {E:List Zt}{left on row:List Int} (hE:ZeV E left.length) (f:ZdQ E left on row) (c:ZeD E left on):ZeD E (ZF left row) (ZJ left row):=by
  have hl:=Zcp row left
  refine⟨fun x hx=>?_,fun n hn=>?_,fun i j n h1 h2 h3=>?_,fun n hn h0=>?_⟩
  · obtain⟨i,hi⟩:=List.getElem?_of_mem hx
    have e:=ZxS hi
    rw[← e,f.tick_lf c (by omega)]
    have:=ZqR c (i:Int)
    split
    · rename_i hm
      rcases f.row_in c _ hm with h2 | ⟨_,h2,_⟩
      · omega
      · omega
    · exact this
  · unfold ZJ at hn
    obtain⟨k,hk,rfl⟩:=List.mem_map.1 hn
    by_cases h1:k = -1
    · rw[if_pos h1];exact .inl rfl
    · rw[if_neg h1]
      by_cases h2:lf (ZF left row) k=0
      · rw[if_pos h2];exact .inl rfl
      · rw[if_neg h2]
        rcases f.row_in c k hk with h3 | ⟨h3,h4,h5⟩
        · exact absurd h3 h1
        · refine .inr ⟨⟨h3.1,by rw[hl];exact h3.2⟩,?_,f.free hE c h5⟩
          rw[f.tick_lf c h3.1,if_pos hk] at h2 ⊢
          omega
  · have back:∀i:Nat,(ZJ left row)[i]? = some n→row[i]? = some n:=fun i h=>by
      unfold ZJ at h
      rw[List.getElem?_map] at h
      cases hr:row[i]? with
      | none=>rw[hr] at h;cases h
      | some k=>
        rw[hr] at h
        have h:(if k = -1 then (-1:Int) else if lf (ZF left row) k=0 then -1 else k)=n:=Option.some.inj h
        by_cases h1:k = -1
        · rw[if_pos h1] at h;exact absurd h.symm h3
        · rw[if_neg h1] at h
          by_cases h2:lf (ZF left row) k=0
          · rw[if_pos h2] at h;exact absurd h.symm h3
          · rw[if_neg h2] at h;rw[h]
    exact f.one i j n (back i h1) (back j h2) h3
  · have hn':isN left n:=⟨hn.1,by rw[← hl];exact hn.2⟩
    rw[f.tick_lf c hn.1] at h0
    by_cases hm:n∈row
    · rcases f.row_in c n hm with h2 | ⟨_,_,h2⟩
      · have:=hn.1;omega
      · exact f.free hE c h2
    · rw[if_neg hm] at h0
      exact f.free hE c (c.over n hn' h0)
inductive Sched (E:List Zt) (need:List Int) (m:Nat):List (List Int)→List Int→List Int→Prop
  | nil:Sched E need m [] need (List.replicate m (-1))
  | snoc {t:List (List Int)} {left on row:List Int}:Sched E need m t left on→(∃n,isN left n∧0<lf left n)→ZdQ E left on row→Sched E need m (t++[row]) (ZF left row) (ZJ left row)
theorem ZrC {E:List Zt}{need:List Int} (m:Nat) (h:∀x∈need,1≤x∧x≤1000):ZeD E need (List.replicate m (-1)):=by
  refine⟨fun x hx=>by have:=h x hx;omega,fun n hn=>.inl (List.mem_replicate.1 hn).2,fun i j n h1 h2 h3=>?_,fun n hn h0=>?_⟩
  · have:=List.mem_of_getElem? h1
    exact absurd (List.mem_replicate.1 this).2 h3
  · have:=h _ (List.mem_of_getElem? (Zhz hn.1 hn.2))
    omega
theorem Sched.len {E:List Zt}{need:List Int}{m:Nat}{t:List (List Int)}{left on:List Int} (s:Sched E need m t left on):left.length=need.length∧on.length=m∧∀row∈t,row.length=m:=by
  induction s with
  | nil=>exact⟨rfl,by simp,fun _ h=>by cases h⟩
  | snoc _ _ f ih=>
    refine⟨by rw[Zcp];exact ih.1,by unfold ZJ;rw[List.length_map,f.len];exact ih.2.1,fun r hr=>?_⟩
    rcases List.mem_append.1 hr with h | h
    · exact ih.2.2 r h
    · rw[List.mem_singleton] at h
      rw[h,f.len]
      exact ih.2.1
theorem Sched.crew {E:List Zt}{need:List Int}{m:Nat} (h:∀x∈need,1≤x∧x≤1000) (hE:ZeV E need.length) {t:List (List Int)}{left on:List Int} (s:Sched E need m t left on):ZeD E left on:=by
  induction s with
  | nil=>exact ZrC m h
  | snoc s _ f ih=>exact f.next (by rw[s.len.1];exact hE) ih
def ZdN (t:List (List Int)):Nat:=(t.map busy).sum
theorem Sched.sum {E:List Zt}{need:List Int}{m:Nat} (h:∀x∈need,1≤x∧x≤1000) (hE:ZeV E need.length) {t:List (List Int)}{left on:List Int} (s:Sched E need m t left on):left.sum=need.sum-(ZdN t:Int):=by
  induction s with
  | nil=>simp[ZdN]
  | snoc s _ f ih=>
    rw[Zmu _ _ (f.nodes (s.crew h hE)),ih]
    unfold ZdN
    rw[List.map_append,List.sum_append]
    simp
    omega
noncomputable section
abbrev zL (t:Bool) (l:List Int):D:=.list t (List.map Za l)
structure Zk where
 work:(List Int)
 edges:(List Zt)
 deriving DecidableEq
abbrev ZDA (x:Zk):D:=(D.agg [(D.list true (List.map Za x.work)),(D.list true (List.map Zs x.edges))])
structure ZK where
 on:(List Int)
 left:(List Int)
 deriving DecidableEq
structure Zb where
 ring:(List Int)
 top:Int
 bottom:Int
 deriving DecidableEq
abbrev Zy (x:Zb):D:=(D.agg [(D.list true (List.map Za x.ring)),(Za x.top),(Za x.bottom)])
structure Zi where
 steal:Bool
 at_:Int
 top:Int
 bottom:Int
 got:Int
 end_:Int
 deriving DecidableEq
abbrev ZA (x:Zi):D:=(D.agg [(D.bool x.steal),(Za x.at_),(Za x.top),(Za x.bottom),(Za x.got),(Za x.end_)])
structure ZS where
 crew:ZK
 deques:(List Zb)
 takers:(List Zi)
 from_:(List Int)
 deriving DecidableEq
structure ZbS where
 stealing:Bool
 demand:(List Int)
 state:Int
 gang:ZS
 deriving DecidableEq
structure Zbp where
 on:(List Int)
 done:(List Int)
 steps:Int
 deriving DecidableEq
structure Zjc where
 deriving DecidableEq
structure ZoP where
 deriving DecidableEq
structure ZD where
 a0:Int
 a1:Int
 deriving DecidableEq
abbrev Zba (x:ZD):D:=(D.agg [(Za x.a0),(Za x.a1)])
def ZdG:Option Bool:=some true
def Zha (a:Zk):Option Bool:=
 bif (decide ((a.work.length:Int)≤70)) then
  bif (decide ((a.edges.length:Int)≤300)) then
   some true
  else
   some false
 else
  some false
def Zcs (a:Zk):Option Unit:=
 bif (Nat.ble (List.length a.work) lim) then
  bif (Nat.ble (List.length a.edges) lim) then
   some ()
  else
   none
 else
  none
def Zbz (a:List Int):Option Unit:=
 bif (Nat.ble (List.length a) lim) then
  some ()
 else
  none
def ZbJ (a:Int):Option Bool:=
 bif (decide (a<0)) then
  some true
 else
  bif (decide (1000<a)) then
   some true
  else
   some false
def Zv (a:List Int) (b:(Int→Option Bool)) (s0:Int):Option (Int⊕(Int⊕Unit)):=
 bif (decide (s0<(a.length:Int))) then
  (ZI a s0).bind fun x1=>
  (b x1).bind fun x2=>
  bif x2 then
   some (.inr (.inl s0))
  else
   some (.inl (w64 (s0+1)))
 else
  some (.inr (.inr ()))
def ZC (a:List Int) (b:(Int→Option Bool)):Option Int:=
 (lp (Zv a b) 0).bind fun r3=>
 match r3 with
 | (.inl r3)=>
  some r3
 | (.inr r3)=>
  some (-1)
def Zw (a:List Int) (b:(Int→Option Bool)):Option Bool:=
 (ZC a b).bind fun x0=>
 bif (decide (0≤x0)) then
  some true
 else
  some false
def Zen (a:Int) (b0:List Int):Option Bool:=
 bif (decide (0≤a)) then
  bif (decide (a<(b0.length:Int))) then
   some true
  else
   some false
 else
  some false
def Zat (a:List Zt) (b:Zt) (s0:Int):Option (Int⊕(Int⊕Unit)):=
 bif (decide (s0<(a.length:Int))) then
  (ZI a s0).bind fun x1=>
  bif ((b.src==x1.src)&&((b.dst==x1.dst)&&true)) then
   some (.inr (.inl s0))
  else
   some (.inl (w64 (s0+1)))
 else
  some (.inr (.inr ()))
def ZbO (a:List Zt) (b:Zt):Option Int:=
 (lp (Zat a b) 0).bind fun r2=>
 match r2 with
 | (.inl r2)=>
  some r2
 | (.inr r2)=>
  some (-1)
def Zaw (a:List Zt) (b:Zt):Option Bool:=
 (ZbO a b).bind fun x0=>
 bif (decide (0≤x0)) then
  some true
 else
  some false
def Zd1 (a:Zk) (s0:(List Int)×(List Bool)) (s1:Int) (s3:Int):Option (Int⊕(Unit⊕Unit)):=
 bif (decide (s3<(a.edges.length:Int))) then
  (ZI a.edges s3).bind fun x4=>
  bif (x4.dst==s1) then
   (ZI s0.2 x4.src).bind fun x5=>
   bif x5 then
    some (.inl (w64 (s3+1)))
   else
    some (.inr (.inl ()))
  else
   some (.inl (w64 (s3+1)))
 else
  some (.inr (.inr ()))
def ZcV (a:Zk) (s0:(List Int)×(List Bool)) (s1:Int):Option (Int⊕(((List Int)×(List Bool))⊕Unit)):=
 bif (decide (s1<(a.work.length:Int))) then
  (ZI s0.2 s1).bind fun x2=>
  bif x2 then
   some (.inl (w64 (s1+1)))
  else
   (lp (Zd1 a s0 s1) 0).bind fun r6=>
   match r6 with
   | (.inl r6)=>
    some (.inl (w64 (s1+1)))
   | (.inr r6)=>
    bif (Nat.ble (List.length s0.1+1) lim) then
     some (.inr (.inl ((s0.1++[s1]),(List.set s0.2 s1.toNat true))))
    else
     none
 else
  some (.inr (.inr ()))
def Zd2 (a:Zk) (s0:(List Int)×(List Bool)):Option (((List Int)×(List Bool))⊕((List Int)⊕(List Int))):=
 bif (decide ((s0.1.length:Int)<(a.work.length:Int))) then
  (lp (ZcV a s0) 0).bind fun r7=>
  match r7 with
  | (.inl r7)=>
   some (.inl (r7.1,r7.2))
  | (.inr r7)=>
   some (.inr (.inl s0.1))
 else
  some (.inr (.inr s0.1))
def ZeG (a:Zk):Option ((List Int)×Bool):=
 bif (decide (0≤(a.work.length:Int))&&decide ((a.work.length:Int)≤lim)&&decide ((a.work.length:Int)==(a.work.length:Int))) then
  (lp (Zd2 a) (([]:List Int),(List.replicate (a.work.length:Int).toNat (false:Bool)))).bind fun r8=>
  match r8 with
  | (.inl r8)=>
   some (([]:List Int),false)
  | (.inr r8)=>
   some (r8,true)
 else
  none
def Zdb (a:Zk) (s1:Int):Option (Int⊕(Unit⊕Unit)):=
 bif (decide (s1<(a.edges.length:Int))) then
  (ZI a.edges s1).bind fun x2=>
  (Zen x2.src a.work).bind fun x3=>
  bif x3 then
   (Zen x2.dst a.work).bind fun x4=>
   bif x4 then
    bif (x2.src==x2.dst) then
     some (.inr (.inl ()))
    else
     bif (decide (0≤s1)) then
      bif (Nat.ble s1.toNat (List.length a.edges)) then
       (Zaw (List.take s1.toNat a.edges) x2).bind fun x5=>
       bif x5 then
        some (.inr (.inl ()))
       else
        some (.inl (w64 (s1+1)))
      else
       none
     else
      none
   else
    some (.inr (.inl ()))
  else
   some (.inr (.inl ()))
 else
  some (.inr (.inr ()))
def ZbI (a:Zk):Option Int:=
 bif (decide (64<(a.work.length:Int))) then
  some 40
 else
  bif (decide (256<(a.edges.length:Int))) then
   some 40
  else
   (Zw a.work (fun z0=>ZbJ z0)).bind fun x0=>
   bif x0 then
    some 41
   else
    (lp (Zdb a) 0).bind fun r6=>
    match r6 with
    | (.inl r6)=>
     some 42
    | (.inr r6)=>
     (ZeG a).bind fun x7=>
     bif x7.2 then
      some 0
     else
      some 43
def Zbf (a:Int):Option Bool:=
 bif (decide (a<1)) then
  some true
 else
  bif (decide (1000<a)) then
   some true
  else
   some false
def Ze8 (a:Zk) (b:List Int):Option Bool:=
 bif ((b.length:Int)==(a.work.length:Int)) then
  (Zw b (fun z0=>Zbf z0)).bind fun x0=>
  bif x0 then
   some false
  else
   (Zw a.work (fun z0=>Zbf z0)).bind fun x1=>
   bif x1 then
    some false
   else
    some true
 else
  some false
def Zd7 (a:Bool):Option (Unit⊕Unit):=
 bif a then
  some (.inl ())
 else
  some (.inr ())
def ZbP (a:Int):Option Bool:=
 bif (decide (a<0)) then
  some true
 else
  bif (decide (1000<a)) then
   some true
  else
   some false
def Zdf (a:ZK) (b:Int):Option Bool:=
 (ZI a.left b).bind fun x0=>
 bif (x0==0) then
  some true
 else
  some false
def ZaL (a:List Int) (b:Int) (s0:Int):Option (Int⊕(Int⊕Unit)):=
 bif (decide (s0<(a.length:Int))) then
  (ZI a s0).bind fun x1=>
  bif (b==x1) then
   some (.inr (.inl s0))
  else
   some (.inl (w64 (s0+1)))
 else
  some (.inr (.inr ()))
def ZcK (a:List Int) (b:Int):Option Int:=
 (lp (ZaL a b) 0).bind fun r2=>
 match r2 with
 | (.inl r2)=>
  some r2
 | (.inr r2)=>
  some (-1)
def Zz (a:List Int) (b:Int):Option Bool:=
 (ZcK a b).bind fun x0=>
 bif (decide (0≤x0)) then
  some true
 else
  some false
def ZdE (a:Zt) (b0:Int) (c0:List Int) (c1:List Int):Option Bool:=
 bif (a.dst==b0) then
  (Zdf (ZK.mk c0 c1) a.src).bind fun x0=>
  bif x0 then
   some false
  else
   some true
 else
  some false
def ZZ (a:List Zt) (b:(Zt→Option Bool)) (s0:Int):Option (Int⊕(Int⊕Unit)):=
 bif (decide (s0<(a.length:Int))) then
  (ZI a s0).bind fun x1=>
  (b x1).bind fun x2=>
  bif x2 then
   some (.inr (.inl s0))
  else
   some (.inl (w64 (s0+1)))
 else
  some (.inr (.inr ()))
def Zam (a:List Zt) (b:(Zt→Option Bool)):Option Int:=
 (lp (ZZ a b) 0).bind fun r3=>
 match r3 with
 | (.inl r3)=>
  some r3
 | (.inr r3)=>
  some (-1)
def ZQ (a:List Zt) (b:(Zt→Option Bool)):Option Bool:=
 (Zam a b).bind fun x0=>
 bif (decide (0≤x0)) then
  some true
 else
  some false
def ZeL (a:Zk) (b:ZK) (c:Int):Option Bool:=
 (ZQ a.edges (fun z0=>ZdE z0 c b.on b.left)).bind fun x0=>
 bif x0 then
  some false
 else
  some true
def Zdx (a:Zk) (b:ZK) (s1:Int):Option (Int⊕(Unit⊕Unit)):=
 bif (decide (s1<(b.on.length:Int))) then
  (ZI b.on s1).bind fun x2=>
  bif (x2==(-1)) then
   some (.inl (w64 (s1+1)))
  else
   bif (decide (x2<0)) then
    some (.inr (.inl ()))
   else
    bif (decide ((b.left.length:Int)≤x2)) then
     some (.inr (.inl ()))
    else
     (Zdf b x2).bind fun x3=>
     bif x3 then
      some (.inr (.inl ()))
     else
      bif (decide (0≤s1)) then
       bif (Nat.ble s1.toNat (List.length b.on)) then
        (Zz (List.take s1.toNat b.on) x2).bind fun x4=>
        bif x4 then
         some (.inr (.inl ()))
        else
         (ZeL a b x2).bind fun x5=>
         bif x5 then
          some (.inl (w64 (s1+1)))
         else
          some (.inr (.inl ()))
       else
        none
      else
       none
 else
  some (.inr (.inr ()))
def ZdA (a:Zk) (b:ZK) (s7:Int):Option (Int⊕(Unit⊕Unit)):=
 bif (decide (s7<(b.left.length:Int))) then
  (Zdf b s7).bind fun x8=>
  bif x8 then
   (ZeL a b s7).bind fun x9=>
   bif x9 then
    some (.inl (w64 (s7+1)))
   else
    some (.inr (.inl ()))
  else
   some (.inl (w64 (s7+1)))
 else
  some (.inr (.inr ()))
def Zgq (a:Zk) (b:ZK):Option Bool:=
 bif (decide ((b.on.length:Int)<1)) then
  some false
 else
  bif (decide (8<(b.on.length:Int))) then
   some false
  else
   bif ((b.left.length:Int) != (a.work.length:Int)) then
    some false
   else
    (Zw b.left (fun z0=>ZbP z0)).bind fun x0=>
    bif x0 then
     some false
    else
     (lp (Zdx a b) 0).bind fun r6=>
     match r6 with
     | (.inl r6)=>
      some false
     | (.inr r6)=>
      (lp (ZdA a b) 0).bind fun r10=>
      match r10 with
      | (.inl r10)=>
       some false
      | (.inr r10)=>
       some true
def Zdr (a:Zk) (b:ZK):Option Int:=
 (ZbI a).bind fun x0=>
 bif (x0==0) then
  (Zgq a b).bind fun x1=>
  bif x1 then
   some x0
  else
   some 110
 else
  some x0
def ZfH (a:Int):Option Int:=
 bif (decide (a<0)) then
  some 10
 else
  bif (decide (1099511627775<a)) then
   some 11
  else
   some 0
def Zbo (a:Int):Option Int:=
 some (i64.wrap (Zzf (w64 (u64.wrap ((u64.wrap ((u64.wrap ((u64.wrap (Zh (u64.wrap ((Int.fdiv (u64.wrap ((u64.wrap (Zh (Int.fdiv (u64.wrap ((u64.wrap (Zh (Int.fdiv a (2 ^ 1)) &&& Zh 6148914691236517205).toNat)+(u64.wrap (Zh a &&& Zh 6148914691236517205).toNat))) (2 ^ 2)) &&& Zh 3689348814741910323).toNat)+(u64.wrap (Zh (u64.wrap ((u64.wrap (Zh (Int.fdiv a (2 ^ 1)) &&& Zh 6148914691236517205).toNat)+(u64.wrap (Zh a &&& Zh 6148914691236517205).toNat))) &&& Zh 3689348814741910323).toNat))) (2 ^ 4))+(u64.wrap ((u64.wrap (Zh (Int.fdiv (u64.wrap ((u64.wrap (Zh (Int.fdiv a (2 ^ 1)) &&& Zh 6148914691236517205).toNat)+(u64.wrap (Zh a &&& Zh 6148914691236517205).toNat))) (2 ^ 2)) &&& Zh 3689348814741910323).toNat)+(u64.wrap (Zh (u64.wrap ((u64.wrap (Zh (Int.fdiv a (2 ^ 1)) &&& Zh 6148914691236517205).toNat)+(u64.wrap (Zh a &&& Zh 6148914691236517205).toNat))) &&& Zh 3689348814741910323).toNat))))) &&& Zh 1085102592571150095).toNat)+(Int.fdiv (u64.wrap (Zh (u64.wrap ((Int.fdiv (u64.wrap ((u64.wrap (Zh (Int.fdiv (u64.wrap ((u64.wrap (Zh (Int.fdiv a (2 ^ 1)) &&& Zh 6148914691236517205).toNat)+(u64.wrap (Zh a &&& Zh 6148914691236517205).toNat))) (2 ^ 2)) &&& Zh 3689348814741910323).toNat)+(u64.wrap (Zh (u64.wrap ((u64.wrap (Zh (Int.fdiv a (2 ^ 1)) &&& Zh 6148914691236517205).toNat)+(u64.wrap (Zh a &&& Zh 6148914691236517205).toNat))) &&& Zh 3689348814741910323).toNat))) (2 ^ 4))+(u64.wrap ((u64.wrap (Zh (Int.fdiv (u64.wrap ((u64.wrap (Zh (Int.fdiv a (2 ^ 1)) &&& Zh 6148914691236517205).toNat)+(u64.wrap (Zh a &&& Zh 6148914691236517205).toNat))) (2 ^ 2)) &&& Zh 3689348814741910323).toNat)+(u64.wrap (Zh (u64.wrap ((u64.wrap (Zh (Int.fdiv a (2 ^ 1)) &&& Zh 6148914691236517205).toNat)+(u64.wrap (Zh a &&& Zh 6148914691236517205).toNat))) &&& Zh 3689348814741910323).toNat))))) &&& Zh 1085102592571150095).toNat) (2 ^ 8))))+(Int.fdiv (u64.wrap ((u64.wrap (Zh (u64.wrap ((Int.fdiv (u64.wrap ((u64.wrap (Zh (Int.fdiv (u64.wrap ((u64.wrap (Zh (Int.fdiv a (2 ^ 1)) &&& Zh 6148914691236517205).toNat)+(u64.wrap (Zh a &&& Zh 6148914691236517205).toNat))) (2 ^ 2)) &&& Zh 3689348814741910323).toNat)+(u64.wrap (Zh (u64.wrap ((u64.wrap (Zh (Int.fdiv a (2 ^ 1)) &&& Zh 6148914691236517205).toNat)+(u64.wrap (Zh a &&& Zh 6148914691236517205).toNat))) &&& Zh 3689348814741910323).toNat))) (2 ^ 4))+(u64.wrap ((u64.wrap (Zh (Int.fdiv (u64.wrap ((u64.wrap (Zh (Int.fdiv a (2 ^ 1)) &&& Zh 6148914691236517205).toNat)+(u64.wrap (Zh a &&& Zh 6148914691236517205).toNat))) (2 ^ 2)) &&& Zh 3689348814741910323).toNat)+(u64.wrap (Zh (u64.wrap ((u64.wrap (Zh (Int.fdiv a (2 ^ 1)) &&& Zh 6148914691236517205).toNat)+(u64.wrap (Zh a &&& Zh 6148914691236517205).toNat))) &&& Zh 3689348814741910323).toNat))))) &&& Zh 1085102592571150095).toNat)+(Int.fdiv (u64.wrap (Zh (u64.wrap ((Int.fdiv (u64.wrap ((u64.wrap (Zh (Int.fdiv (u64.wrap ((u64.wrap (Zh (Int.fdiv a (2 ^ 1)) &&& Zh 6148914691236517205).toNat)+(u64.wrap (Zh a &&& Zh 6148914691236517205).toNat))) (2 ^ 2)) &&& Zh 3689348814741910323).toNat)+(u64.wrap (Zh (u64.wrap ((u64.wrap (Zh (Int.fdiv a (2 ^ 1)) &&& Zh 6148914691236517205).toNat)+(u64.wrap (Zh a &&& Zh 6148914691236517205).toNat))) &&& Zh 3689348814741910323).toNat))) (2 ^ 4))+(u64.wrap ((u64.wrap (Zh (Int.fdiv (u64.wrap ((u64.wrap (Zh (Int.fdiv a (2 ^ 1)) &&& Zh 6148914691236517205).toNat)+(u64.wrap (Zh a &&& Zh 6148914691236517205).toNat))) (2 ^ 2)) &&& Zh 3689348814741910323).toNat)+(u64.wrap (Zh (u64.wrap ((u64.wrap (Zh (Int.fdiv a (2 ^ 1)) &&& Zh 6148914691236517205).toNat)+(u64.wrap (Zh a &&& Zh 6148914691236517205).toNat))) &&& Zh 3689348814741910323).toNat))))) &&& Zh 1085102592571150095).toNat) (2 ^ 8)))) (2 ^ 16))))+(Int.fdiv (u64.wrap ((u64.wrap ((u64.wrap (Zh (u64.wrap ((Int.fdiv (u64.wrap ((u64.wrap (Zh (Int.fdiv (u64.wrap ((u64.wrap (Zh (Int.fdiv a (2 ^ 1)) &&& Zh 6148914691236517205).toNat)+(u64.wrap (Zh a &&& Zh 6148914691236517205).toNat))) (2 ^ 2)) &&& Zh 3689348814741910323).toNat)+(u64.wrap (Zh (u64.wrap ((u64.wrap (Zh (Int.fdiv a (2 ^ 1)) &&& Zh 6148914691236517205).toNat)+(u64.wrap (Zh a &&& Zh 6148914691236517205).toNat))) &&& Zh 3689348814741910323).toNat))) (2 ^ 4))+(u64.wrap ((u64.wrap (Zh (Int.fdiv (u64.wrap ((u64.wrap (Zh (Int.fdiv a (2 ^ 1)) &&& Zh 6148914691236517205).toNat)+(u64.wrap (Zh a &&& Zh 6148914691236517205).toNat))) (2 ^ 2)) &&& Zh 3689348814741910323).toNat)+(u64.wrap (Zh (u64.wrap ((u64.wrap (Zh (Int.fdiv a (2 ^ 1)) &&& Zh 6148914691236517205).toNat)+(u64.wrap (Zh a &&& Zh 6148914691236517205).toNat))) &&& Zh 3689348814741910323).toNat))))) &&& Zh 1085102592571150095).toNat)+(Int.fdiv (u64.wrap (Zh (u64.wrap ((Int.fdiv (u64.wrap ((u64.wrap (Zh (Int.fdiv (u64.wrap ((u64.wrap (Zh (Int.fdiv a (2 ^ 1)) &&& Zh 6148914691236517205).toNat)+(u64.wrap (Zh a &&& Zh 6148914691236517205).toNat))) (2 ^ 2)) &&& Zh 3689348814741910323).toNat)+(u64.wrap (Zh (u64.wrap ((u64.wrap (Zh (Int.fdiv a (2 ^ 1)) &&& Zh 6148914691236517205).toNat)+(u64.wrap (Zh a &&& Zh 6148914691236517205).toNat))) &&& Zh 3689348814741910323).toNat))) (2 ^ 4))+(u64.wrap ((u64.wrap (Zh (Int.fdiv (u64.wrap ((u64.wrap (Zh (Int.fdiv a (2 ^ 1)) &&& Zh 6148914691236517205).toNat)+(u64.wrap (Zh a &&& Zh 6148914691236517205).toNat))) (2 ^ 2)) &&& Zh 3689348814741910323).toNat)+(u64.wrap (Zh (u64.wrap ((u64.wrap (Zh (Int.fdiv a (2 ^ 1)) &&& Zh 6148914691236517205).toNat)+(u64.wrap (Zh a &&& Zh 6148914691236517205).toNat))) &&& Zh 3689348814741910323).toNat))))) &&& Zh 1085102592571150095).toNat) (2 ^ 8))))+(Int.fdiv (u64.wrap ((u64.wrap (Zh (u64.wrap ((Int.fdiv (u64.wrap ((u64.wrap (Zh (Int.fdiv (u64.wrap ((u64.wrap (Zh (Int.fdiv a (2 ^ 1)) &&& Zh 6148914691236517205).toNat)+(u64.wrap (Zh a &&& Zh 6148914691236517205).toNat))) (2 ^ 2)) &&& Zh 3689348814741910323).toNat)+(u64.wrap (Zh (u64.wrap ((u64.wrap (Zh (Int.fdiv a (2 ^ 1)) &&& Zh 6148914691236517205).toNat)+(u64.wrap (Zh a &&& Zh 6148914691236517205).toNat))) &&& Zh 3689348814741910323).toNat))) (2 ^ 4))+(u64.wrap ((u64.wrap (Zh (Int.fdiv (u64.wrap ((u64.wrap (Zh (Int.fdiv a (2 ^ 1)) &&& Zh 6148914691236517205).toNat)+(u64.wrap (Zh a &&& Zh 6148914691236517205).toNat))) (2 ^ 2)) &&& Zh 3689348814741910323).toNat)+(u64.wrap (Zh (u64.wrap ((u64.wrap (Zh (Int.fdiv a (2 ^ 1)) &&& Zh 6148914691236517205).toNat)+(u64.wrap (Zh a &&& Zh 6148914691236517205).toNat))) &&& Zh 3689348814741910323).toNat))))) &&& Zh 1085102592571150095).toNat)+(Int.fdiv (u64.wrap (Zh (u64.wrap ((Int.fdiv (u64.wrap ((u64.wrap (Zh (Int.fdiv (u64.wrap ((u64.wrap (Zh (Int.fdiv a (2 ^ 1)) &&& Zh 6148914691236517205).toNat)+(u64.wrap (Zh a &&& Zh 6148914691236517205).toNat))) (2 ^ 2)) &&& Zh 3689348814741910323).toNat)+(u64.wrap (Zh (u64.wrap ((u64.wrap (Zh (Int.fdiv a (2 ^ 1)) &&& Zh 6148914691236517205).toNat)+(u64.wrap (Zh a &&& Zh 6148914691236517205).toNat))) &&& Zh 3689348814741910323).toNat))) (2 ^ 4))+(u64.wrap ((u64.wrap (Zh (Int.fdiv (u64.wrap ((u64.wrap (Zh (Int.fdiv a (2 ^ 1)) &&& Zh 6148914691236517205).toNat)+(u64.wrap (Zh a &&& Zh 6148914691236517205).toNat))) (2 ^ 2)) &&& Zh 3689348814741910323).toNat)+(u64.wrap (Zh (u64.wrap ((u64.wrap (Zh (Int.fdiv a (2 ^ 1)) &&& Zh 6148914691236517205).toNat)+(u64.wrap (Zh a &&& Zh 6148914691236517205).toNat))) &&& Zh 3689348814741910323).toNat))))) &&& Zh 1085102592571150095).toNat) (2 ^ 8)))) (2 ^ 16)))) (2 ^ 32))))) &&& Zzf 127).toNat)
def ZbZ (a:Int):Option Int:=
 (Zbo a).bind fun x0=>
 some x0
def ZbA (a:Int):Option Unit:=
 bif (a==0) then
  some ()
 else
  some ()
def ZaV (a:Int):Option Unit:=
 (ZbA a).bind fun x0=>
 some ()
def Zgx (a:Int):Option (Unit⊕Unit):=
 (ZfH a).bind fun x0=>
 bif (x0 != 0) then
  some (.inl ())
 else
  (ZbZ (u64.wrap a)).bind fun x1=>
  bif (x1 != 1) then
   some (.inl ())
  else
   (ZaV (u64.wrap a)).bind fun x2=>
   some (.inr ())
def ZbG (a:Zb):Option Int:=
 (Zgx (a.ring.length:Int)).bind fun x0=>
 match x0 with
 | (.inl x0)=>
  some 120
 | (.inr x0)=>
  bif (decide (64<(a.ring.length:Int))) then
   some 120
  else
   (ZfH a.top).bind fun x1=>
   bif (x1 != 0) then
    some 120
   else
    bif (decide (a.bottom<(w64 (a.top-1)))) then
     some 120
    else
     bif (decide ((w64 (a.top+(a.ring.length:Int)))<a.bottom)) then
      some 120
     else
      some 0
def ZcY (a:ZS) (s0:Int):Option (Int⊕(Unit⊕Unit)):=
 bif (decide (s0<(a.deques.length:Int))) then
  (ZI a.deques s0).bind fun x1=>
  (ZI a.takers s0).bind fun x2=>
  (ZI a.from_ s0).bind fun x3=>
  (ZbG x1).bind fun x4=>
  bif (x4 != 0) then
   some (.inr (.inl ()))
  else
   bif ((x1.ring.length:Int) != 64) then
    some (.inr (.inl ()))
   else
    bif (x2.end_ != 0) then
     some (.inr (.inl ()))
    else
     bif (decide (x3<0)) then
      some (.inr (.inl ()))
     else
      bif (decide ((a.crew.on.length:Int)≤x3)) then
       some (.inr (.inl ()))
      else
       bif x2.steal then
        bif (x3 != 0) then
         (ZI a.crew.on s0).bind fun x5=>
         bif (x5 != (-1)) then
          bif (!((x2.steal==false)&&((x2.at_==0)&&((x2.top==0)&&((x2.bottom==0)&&((x2.got==0)&&((x2.end_==0)&&true))))))) then
           some (.inr (.inl ()))
          else
           bif (x3 != 0) then
            some (.inr (.inl ()))
           else
            some (.inl (w64 (s0+1)))
         else
          some (.inl (w64 (s0+1)))
        else
         some (.inr (.inl ()))
       else
        bif (x3 != 0) then
         some (.inr (.inl ()))
        else
         (ZI a.crew.on s0).bind fun x6=>
         bif (x6 != (-1)) then
          bif (!((x2.steal==false)&&((x2.at_==0)&&((x2.top==0)&&((x2.bottom==0)&&((x2.got==0)&&((x2.end_==0)&&true))))))) then
           some (.inr (.inl ()))
          else
           bif (x3 != 0) then
            some (.inr (.inl ()))
           else
            some (.inl (w64 (s0+1)))
         else
          some (.inl (w64 (s0+1)))
 else
  some (.inr (.inr ()))
def ZfB (a:ZS):Option Bool:=
 bif ((a.deques.length:Int) != (a.crew.on.length:Int)) then
  some false
 else
  bif ((a.takers.length:Int) != (a.crew.on.length:Int)) then
   some false
  else
   bif ((a.from_.length:Int) != (a.crew.on.length:Int)) then
    some false
   else
    (lp (ZcY a) 0).bind fun r7=>
    match r7 with
    | (.inl r7)=>
     some false
    | (.inr r7)=>
     some true
def Zer (a:Zk) (b:ZS):Option Int:=
 (Zdr a b.crew).bind fun x0=>
 bif (x0==0) then
  (ZfB b).bind fun x1=>
  bif x1 then
   some x0
  else
   some 130
 else
  some x0
def ZcX (a:Zk) (b:List Int) (s0:Int×(List Int)):Option ((Int×(List Int))⊕(List Int)):=
 bif (decide (s0.1<(a.work.length:Int))) then
  (ZI a.work s0.1).bind fun x1=>
  (ZI b s0.1).bind fun x2=>
  bif (Nat.ble (List.length s0.2+1) lim) then
   some (.inl ((w64 (s0.1+1)),(s0.2++[(bif decide (x1<x2) then x1 else x2)])))
  else
   none
 else
  some (.inr s0.2)
def ZeK (a:Zk) (b:List Int):Option (List Int):=
 (lp (ZcX a b) (0,([]:List Int))).bind fun r3=>
 some r3
def ZaT (a:Zk) (b:List Int) (c:List Int) (s0:Int×Int):Option ((Int×Int)⊕(Int⊕Int)):=
 bif (decide (s0.2<(c.length:Int))) then
  (ZI c s0.2).bind fun x1=>
  bif (decide (0<x1)) then
   bif (s0.1==2) then
    some (.inl (1,(w64 (s0.2+1))))
   else
    bif (x1==0) then
     (ZI b s0.2).bind fun x2=>
     (ZI a.work s0.2).bind fun x3=>
     bif (decide (x3<x2)) then
      some (.inr (.inl s0.1))
     else
      some (.inl (s0.1,(w64 (s0.2+1))))
    else
     some (.inl (s0.1,(w64 (s0.2+1))))
  else
   bif (x1==0) then
    (ZI b s0.2).bind fun x4=>
    (ZI a.work s0.2).bind fun x5=>
    bif (decide (x5<x4)) then
     some (.inr (.inl s0.1))
    else
     some (.inl (s0.1,(w64 (s0.2+1))))
   else
    some (.inl (s0.1,(w64 (s0.2+1))))
 else
  some (.inr (.inr s0.1))
def ZbC (a:Zk) (b:List Int) (c:List Int):Option Int:=
 (lp (ZaT a b c) (2,0)).bind fun r6=>
 match r6 with
 | (.inl r6)=>
  some 3
 | (.inr r6)=>
  some r6
def Zn (a:List Int):Option Unit:=
 bif (Nat.ble (List.length a) lim) then
  some ()
 else
  none
def ZaC (a:List Zi):Option Unit:=
 bif (Nat.blt 0 (List.length a)) then
  bif (Nat.ble (List.length a) lim) then
   some ()
  else
   none
 else
  none
def Zaz (a:List Zb):Option Unit:=
 bif (Nat.blt 0 (List.length a)) then
  bif (Nat.ble (List.length a) lim) then
   some ()
  else
   none
 else
  none
def Zc7 (a:ZS) (s5:Int×(List Zb)):Option ((Int×(List Zb))⊕(List Zb)):=
 bif (decide (s5.1<(a.deques.length:Int))) then
  (ZI s5.2 s5.1).bind fun x6=>
  (Zn x6.ring).bind fun x7=>
  some (.inl ((w64 (s5.1+1)),(List.set s5.2 s5.1.toNat x6)))
 else
  some (.inr s5.2)
def ZfL (a:ZS):Option (List Zb):=
 (Zn a.crew.on).bind fun x0=>
 (Zn a.crew.left).bind fun x1=>
 (ZaC a.takers).bind fun x2=>
 (Zn a.from_).bind fun x3=>
 (Zaz a.deques).bind fun x4=>
 (lp (Zc7 a) (0,a.deques)).bind fun r8=>
 some r8
def Zai (a:Zb):Option Bool:=
 bif (decide (a.top<a.bottom)) then
  some true
 else
  some false
def Z7 (a:List Zb) (b:(Zb→Option Bool)) (s0:Int):Option (Int⊕(Int⊕Unit)):=
 bif (decide (s0<(a.length:Int))) then
  (ZI a s0).bind fun x1=>
  (b x1).bind fun x2=>
  bif x2 then
   some (.inr (.inl s0))
  else
   some (.inl (w64 (s0+1)))
 else
  some (.inr (.inr ()))
def ZaN (a:List Zb) (b:(Zb→Option Bool)):Option Int:=
 (lp (Z7 a b) 0).bind fun r3=>
 match r3 with
 | (.inl r3)=>
  some r3
 | (.inr r3)=>
  some (-1)
def Z5 (a:List Zb) (b:(Zb→Option Bool)):Option Bool:=
 (ZaN a b).bind fun x0=>
 bif (decide (0≤x0)) then
  some true
 else
  some false
def ZaY (a0:List Int) (s1:Int×(List Int)):Option ((Int×(List Int))⊕(List Int)):=
 bif (decide (s1.1<(a0.length:Int))) then
  (ZI a0 s1.1).bind fun x2=>
  bif (x2==(-1)) then
   bif (Nat.ble (List.length s1.2+1) lim) then
    some (.inl ((w64 (s1.1+1)),(s1.2++[s1.1])))
   else
    none
  else
   some (.inl ((w64 (s1.1+1)),s1.2))
 else
  some (.inr s1.2)
def ZaK (a0:List Int) (a3:List Zi) (s4:Int×(List Int)):Option ((Int×(List Int))⊕(List Int)):=
 bif (decide (s4.1<(a0.length:Int))) then
  (ZI a0 s4.1).bind fun x5=>
  bif (x5==(-1)) then
   (ZI a3 s4.1).bind fun x6=>
   bif (x6.at_ != 0) then
    bif (Nat.ble (List.length s4.2+1) lim) then
     some (.inl ((w64 (s4.1+1)),(s4.2++[s4.1])))
    else
     none
   else
    some (.inl ((w64 (s4.1+1)),s4.2))
  else
   some (.inl ((w64 (s4.1+1)),s4.2))
 else
  some (.inr s4.2)
def ZbQ (a0:List Int) (a2:List Zb) (a3:List Zi):Option (List Int):=
 (Z5 a2 (fun z0=>Zai z0)).bind fun x0=>
 bif x0 then
  (lp (ZaY a0) (0,([]:List Int))).bind fun r3=>
  some r3
 else
  (lp (ZaK a0 a3) (0,([]:List Int))).bind fun r7=>
  some r7
def Zas (a:Int) (b7:Int):Option Bool:=
 bif (decide (b7<a)) then
  some true
 else
  some false
def ZcB (a7:Int) (b:List Int) (c:List Int) (d:Int):Option Int:=
 bif (decide (d<(c.length:Int))) then
  (ZI c d).bind fun x0=>
  bif ((b.length:Int)==0) then
   none
  else
   (ZI b (Int.tmod (bif decide (x0<0) then 0 else x0) (b.length:Int))).bind fun x1=>
   some x1
 else
  (ZC b (fun z0=>Zas z0 a7)).bind fun x2=>
  (ZI b (bif decide (x2<0) then 0 else x2)).bind fun x3=>
  some x3
def ZbU (a:Int):Option Bool:=
 bif (decide (a<(-1))) then
  some true
 else
  bif (decide (1099511627775<a)) then
   some true
  else
   some false
def Zgl (a:Zi):Option Bool:=
 bif a.steal then
  bif (a.end_==0) then
   bif (decide (0≤a.at_)) then
    bif (decide (a.at_≤3)) then
     bif (a.at_==0) then
      some true
     else
      (ZbU a.top).bind fun x0=>
      bif x0 then
       some false
      else
       (ZbU a.bottom).bind fun x1=>
       bif x1 then
        some false
       else
        some true
    else
     some false
   else
    some false
  else
   some false
 else
  bif (a.end_==0) then
   bif (decide (0≤a.at_)) then
    bif (decide (a.at_≤4)) then
     bif (a.at_==0) then
      some true
     else
      (ZbU a.top).bind fun x2=>
      bif x2 then
       some false
      else
       (ZbU a.bottom).bind fun x3=>
       bif x3 then
        some false
       else
        some true
    else
     some false
   else
    some false
  else
   some false
def ZfM (a:Zb):Option Unit:=
 (Zn a.ring).bind fun x0=>
 some ()
def ZcF (a:Zb) (b:Int):Option Int:=
 bif ((a.ring.length:Int)==0) then
  none
 else
  some (Int.tmod (bif decide (b<0) then 0 else b) (a.ring.length:Int))
def Zdn (m0_0:Int) (m1_2:Int):Option (Unit⊕Unit):=
 bif (m0_0 != m1_2) then
  some (.inl ())
 else
  some (.inr ())
def Zbb (m0_0:Int) (m0_1:Int) (m1_1:Int) (m1_2:Int) (m1_3:Int) (m1_4:Int) (m1_5:Int) (m2_0:List Int):Option (Int×Int×Int×Int×Int×Int):=
 bif (m1_1==0) then
  some (m0_0,1,m0_0,m1_3,m1_4,m1_5)
 else
  bif (m1_1==1) then
   bif (decide (m0_1≤m1_2)) then
    some (m0_0,1,m1_2,m0_1,m1_4,2)
   else
    some (m0_0,2,m1_2,m0_1,m1_4,m1_5)
  else
   bif (m1_1==2) then
    (ZcF (Zb.mk m2_0 m0_0 m0_1) m1_2).bind fun x0=>
    (ZI m2_0 x0).bind fun x1=>
    some (m0_0,3,m1_2,m1_3,x1,m1_5)
   else
    (Zdn m0_0 m1_2).bind fun x2=>
    match x2 with
    | (.inl x2)=>
     some (m0_0,m1_1,m1_2,m1_3,0,3)
    | (.inr x2)=>
     some ((w64 (m0_0+1)),m1_1,m1_2,m1_3,m1_4,1)
def Zbh (m0_0:Int) (m0_1:Int) (m1_1:Int) (m1_2:Int) (m1_3:Int) (m1_4:Int) (m1_5:Int) (m2_0:List Int):Option (Int×Int×Int×Int×Int×Int×Int):=
 bif (m1_1==0) then
  some (m0_0,(w64 (m0_1-1)),1,m1_2,(w64 (m0_1-1)),m1_4,m1_5)
 else
  bif (m1_1==1) then
   bif (decide (m0_0<m1_3)) then
    (ZcF (Zb.mk m2_0 m0_0 m0_1) m1_3).bind fun x0=>
    (ZI m2_0 x0).bind fun x1=>
    some (m0_0,m0_1,m1_1,m0_0,m1_3,x1,1)
   else
    bif (m0_0==m1_3) then
     some (m0_0,m0_1,2,m0_0,m1_3,m1_4,m1_5)
    else
     some (m0_0,m0_1,3,m0_0,m1_3,m1_4,m1_5)
  else
   bif (m1_1==2) then
    (Zdn m0_0 m1_2).bind fun x2=>
    match x2 with
    | (.inl x2)=>
     some (m0_0,m0_1,3,m1_2,m1_3,m1_4,m1_5)
    | (.inr x2)=>
     (ZcF (Zb.mk m2_0 (w64 (m0_0+1)) m0_1) m1_3).bind fun x3=>
     (ZI m2_0 x3).bind fun x4=>
     some ((w64 (m0_0+1)),m0_1,4,m1_2,m1_3,x4,m1_5)
   else
    bif (m1_1==4) then
     some (m0_0,(w64 (m1_3+1)),m1_1,m1_2,m1_3,m1_4,1)
    else
     some (m0_0,(w64 (m1_3+1)),m1_1,m1_2,m1_3,m1_4,2)
def ZaB (a:Zb) (b:Zi):Option (Zb×Zi×Int):=
 (ZbG a).bind fun x0=>
 bif (x0 != 0) then
  some ((Zb.mk ([]:List Int) 0 0),(Zi.mk false 0 0 0 0 0),x0)
 else
  (Zgl b).bind fun x1=>
  bif x1 then
   (ZfM a).bind fun x2=>
   bif b.steal then
    (Zbb a.top a.bottom b.at_ b.top b.bottom b.got b.end_ a.ring).bind fun x3=>
    (ZbG (Zb.mk a.ring x3.1 a.bottom)).bind fun x4=>
    bif (x4 != 0) then
     some ((Zb.mk ([]:List Int) 0 0),(Zi.mk false 0 0 0 0 0),x4)
    else
     some ((Zb.mk a.ring x3.1 a.bottom),(Zi.mk b.steal x3.2.1 x3.2.2.1 x3.2.2.2.1 x3.2.2.2.2.1 x3.2.2.2.2.2),0)
   else
    (Zbh a.top a.bottom b.at_ b.top b.bottom b.got b.end_ a.ring).bind fun x5=>
    (ZbG (Zb.mk a.ring x5.1 x5.2.1)).bind fun x6=>
    bif (x6 != 0) then
     some ((Zb.mk ([]:List Int) 0 0),(Zi.mk false 0 0 0 0 0),x6)
    else
     some ((Zb.mk a.ring x5.1 x5.2.1),(Zi.mk b.steal x5.2.2.1 x5.2.2.2.1 x5.2.2.2.2.1 x5.2.2.2.2.2.1 x5.2.2.2.2.2.2),0)
  else
   some ((Zb.mk ([]:List Int) 0 0),(Zi.mk false 0 0 0 0 0),122)
def Zdt (a:Zk) (b:ZK) (s0:Int×(List Int)):Option ((Int×(List Int))⊕(List Int)):=
 bif (decide (s0.1<(b.left.length:Int))) then
  (Zdf b s0.1).bind fun x1=>
  bif x1 then
   some (.inl ((w64 (s0.1+1)),s0.2))
  else
   (Zz b.on s0.1).bind fun x2=>
   bif x2 then
    some (.inl ((w64 (s0.1+1)),s0.2))
   else
    (ZeL a b s0.1).bind fun x3=>
    bif x3 then
     bif (Nat.ble (List.length s0.2+1) lim) then
      some (.inl ((w64 (s0.1+1)),(s0.2++[s0.1])))
     else
      none
    else
     some (.inl ((w64 (s0.1+1)),s0.2))
 else
  some (.inr s0.2)
def ZeW (a:Zk) (b:ZK):Option (List Int):=
 (lp (Zdt a b) (0,([]:List Int))).bind fun r4=>
 some r4
def ZcA (a:Zk) (b:ZK):Option (List Int):=
 (Zdr a b).bind fun x0=>
 bif (x0 != 0) then
  some ([]:List Int)
 else
  (ZeW a b).bind fun x1=>
  some x1
def Za8 (b:Int) (c:Int) (m4_0:List Zi) (m5_0:List Int):Option (List Zi):=
 (ZI m5_0 b).bind fun x0=>
 bif (c != 0) then
  (ZI m4_0 b).bind fun x1=>
  some (List.set m4_0 b.toNat (Zi.mk true 0 0 0 0 0))
 else
  (ZI m4_0 b).bind fun x2=>
  some (List.set m4_0 b.toNat (Zi.mk false 0 0 0 0 0))
def Zae (b:Int) (m0_0:List Int) (m0_1:List Zt) (m1_0:List Int) (m2_0:List Int) (m3_0:List Zb) (m4_0:List Zi) (m5_0:List Int):Option (Int×(List Int)×(List Zb)×(List Zi)×(List Int)):=
 (ZI m5_0 b).bind fun x0=>
 bif ((m1_0.length:Int)==0) then
  none
 else
  (ZI m3_0 (Int.tmod (w64 (b+x0)) (m1_0.length:Int))).bind fun x1=>
  (ZI m4_0 b).bind fun x2=>
  (ZaB x1 x2).bind fun x3=>
  bif (x3.2.2 != 0) then
   some (130,m1_0,m3_0,m4_0,m5_0)
  else
   bif (x3.2.1.end_==1) then
    (ZcA (Zk.mk m0_0 m0_1) (ZK.mk m1_0 m2_0)).bind fun x4=>
    (Zz x4 x3.2.1.got).bind fun x5=>
    bif x5 then
     (ZI m1_0 b).bind fun x6=>
     (Za8 b 0 (List.set m4_0 b.toNat x3.2.1) m5_0).bind fun x7=>
     some (0,(List.set m1_0 b.toNat x3.2.1.got),(List.set m3_0 (Int.tmod (w64 (b+x0)) (m1_0.length:Int)).toNat x3.1),x7,(List.set m5_0 b.toNat 0))
    else
     some (130,m1_0,(List.set m3_0 (Int.tmod (w64 (b+x0)) (m1_0.length:Int)).toNat x3.1),(List.set m4_0 b.toNat x3.2.1),m5_0)
   else
    bif (x3.2.1.end_==2) then
     bif ((m1_0.length:Int)==0) then
      none
     else
      (Za8 b (Int.tmod (w64 (x0+1)) (m1_0.length:Int)) (List.set m4_0 b.toNat x3.2.1) m5_0).bind fun x8=>
      some (0,m1_0,(List.set m3_0 (Int.tmod (w64 (b+x0)) (m1_0.length:Int)).toNat x3.1),x8,(List.set m5_0 b.toNat (Int.tmod (w64 (x0+1)) (m1_0.length:Int))))
    else
     bif (x3.2.1.end_==3) then
      bif ((m1_0.length:Int)==0) then
       none
      else
       (Za8 b (Int.tmod (w64 (x0+1)) (m1_0.length:Int)) (List.set m4_0 b.toNat x3.2.1) m5_0).bind fun x9=>
       some (0,m1_0,(List.set m3_0 (Int.tmod (w64 (b+x0)) (m1_0.length:Int)).toNat x3.1),x9,(List.set m5_0 b.toNat (Int.tmod (w64 (x0+1)) (m1_0.length:Int))))
     else
      some (0,m1_0,(List.set m3_0 (Int.tmod (w64 (b+x0)) (m1_0.length:Int)).toNat x3.1),(List.set m4_0 b.toNat x3.2.1),m5_0)
def Zbg (b:List Int) (m0_0:List Int) (m0_1:List Zt) (m2_0:List Int) (s1:Int×(List Int)×Int×(List Int)×(List Zb)×(List Zi)×(List Int)):Option ((Int×(List Int)×Int×(List Int)×(List Zb)×(List Zi)×(List Int))⊕((Int×Int×Int×(List Int)×(List Zb)×(List Zi)×(List Int))⊕(Int×Int×(List Int)×(List Zb)×(List Zi)×(List Int)))):=
 bif (decide (0<(s1.2.1.length:Int))) then
  (ZcB s1.2.2.1 s1.2.1 b s1.1).bind fun x2=>
  (Zae x2 m0_0 m0_1 s1.2.2.2.1 m2_0 s1.2.2.2.2.1 s1.2.2.2.2.2.1 s1.2.2.2.2.2.2).bind fun x3=>
  bif (x3.1 != 0) then
   some (.inr (.inl (x3.1,s1.1,s1.2.2.1,x3.2.1,x3.2.2.1,x3.2.2.2.1,x3.2.2.2.2)))
  else
   (ZbQ x3.2.1 x3.2.2.1 x3.2.2.2.1).bind fun x4=>
   some (.inl ((w64 (s1.1+1)),x4,x2,x3.2.1,x3.2.2.1,x3.2.2.2.1,x3.2.2.2.2))
 else
  some (.inr (.inr (s1.1,s1.2.2.1,s1.2.2.2.1,s1.2.2.2.2.1,s1.2.2.2.2.2.1,s1.2.2.2.2.2.2)))
def ZdJ (b:List Int) (m0_0:List Int) (m0_1:List Zt) (m1_0:List Int) (m2_0:List Int) (m3_0:List Zb) (m4_0:List Zi) (m5_0:List Int):Option (Int×Int×Int×(List Int)×(List Zb)×(List Zi)×(List Int)):=
 (ZbQ m1_0 m3_0 m4_0).bind fun x0=>
 (lp (Zbg b m0_0 m0_1 m2_0) (0,x0,(-1),m1_0,m3_0,m4_0,m5_0)).bind fun r5=>
 match r5 with
 | (.inl r5)=>
  some (0,r5.1,r5.2.2.1,r5.2.2.2.1,r5.2.2.2.2.1,r5.2.2.2.2.2.1,r5.2.2.2.2.2.2)
 | (.inr r5)=>
  some (r5.1,0,r5.2.1,r5.2.2.1,r5.2.2.2.1,r5.2.2.2.2.1,r5.2.2.2.2.2)
def Zgt (a:Zk) (b:ZS) (c:List Int):Option (ZS×Int×Int):=
 (Zer a b).bind fun x0=>
 bif (x0 != 0) then
  some ((ZS.mk (ZK.mk ([]:List Int) ([]:List Int)) ([]:List Zb) ([]:List Zi) ([]:List Int)),0,x0)
 else
  (ZfL b).bind fun x1=>
  (ZdJ c a.work a.edges b.crew.on b.crew.left x1 b.takers b.from_).bind fun x2=>
  bif (x2.2.1 != 0) then
   some ((ZS.mk (ZK.mk ([]:List Int) ([]:List Int)) ([]:List Zb) ([]:List Zi) ([]:List Int)),0,x2.2.1)
  else
   some ((ZS.mk (ZK.mk x2.2.2.2.1 b.crew.left) x2.2.2.2.2.1 x2.2.2.2.2.2.1 x2.2.2.2.2.2.2),x2.1,0)
def Zeb (a:Zjc) (b:Zk) (c:ZS) (d:List Int):Option (ZS×Int×Int):=
 (Zgt b c d).bind fun x0=>
 some (x0.1,x0.2.1,x0.2.2)
def Zfr (a:ZK):Option Unit:=
 (Zn a.on).bind fun x0=>
 (Zn a.left).bind fun x1=>
 some ()
def ZaH (m0_0:List Int):Option (List Int):=
 bif (Nat.ble (List.length m0_0) lim) then
  (some (sortI m0_0)).bind fun x0=>
  some x0
 else
  none
def Zdc (m0_0:List Int) (s0:Int×(List Int)×(List Int)×(List Int)):Option ((Int×(List Int)×(List Int)×(List Int))⊕((List Int)×(List Int)×(List Int))):=
 bif (decide (s0.1<(m0_0.length:Int))) then
  (ZI s0.2.1 s0.1).bind fun x1=>
  bif (x1==(-1)) then
   some (.inl ((w64 (s0.1+1)),s0.2.1,s0.2.2.1,s0.2.2.2))
  else
   (ZI s0.2.2.1 x1).bind fun x2=>
   (Zdf (ZK.mk s0.2.1 (List.set s0.2.2.1 x1.toNat (w64 (x2-1)))) x1).bind fun x3=>
   bif x3 then
    bif (Nat.ble (List.length s0.2.2.2+1) lim) then
     some (.inl ((w64 (s0.1+1)),(List.set s0.2.1 s0.1.toNat (-1)),(List.set s0.2.2.1 x1.toNat (w64 (x2-1))),(s0.2.2.2++[x1])))
    else
     none
   else
    some (.inl ((w64 (s0.1+1)),s0.2.1,(List.set s0.2.2.1 x1.toNat (w64 (x2-1))),s0.2.2.2))
 else
  some (.inr (s0.2.1,s0.2.2.1,s0.2.2.2))
def ZjK (m0_0:List Int) (m1_0:List Int):Option ((List Int)×(List Int)×(List Int)):=
 (lp (Zdc m0_0) (0,m0_0,m1_0,([]:List Int))).bind fun r4=>
 (ZaH r4.2.2).bind fun x5=>
 some (r4.1,r4.2.1,x5)
def ZfK (a:Zk) (b:ZK):Option (Int⊕((List Int)×(List Int)×(List Int))):=
 (Zdr a b).bind fun x0=>
 bif (x0 != 0) then
  some (.inl x0)
 else
  (Zfr b).bind fun x1=>
  (ZjK b.on b.left).bind fun x2=>
  some (.inr (x2.1,x2.2.1,x2.2.2))
def ZdD (a:Zt) (b0:Int):Option (Int×Bool):=
 bif (a.src==b0) then
  some (a.dst,true)
 else
  some (a.dst,false)
def Ze2 (a:Zk) (b:(Zt→Option (Int×Bool))) (s0:Int×(List Int)):Option ((Int×(List Int))⊕(List Int)):=
 bif (decide (s0.1<(a.edges.length:Int))) then
  (ZI a.edges s0.1).bind fun x1=>
  (b x1).bind fun x2=>
  bif x2.2 then
   bif (Nat.ble (List.length s0.2+1) lim) then
    some (.inl ((w64 (s0.1+1)),(s0.2++[x2.1])))
   else
    none
  else
   some (.inl ((w64 (s0.1+1)),s0.2))
 else
  some (.inr s0.2)
def Zl2 (a:Zk) (b:(Zt→Option (Int×Bool))):Option (List Int):=
 (lp (Ze2 a b) (0,([]:List Int))).bind fun r3=>
 (ZaH r3).bind fun x4=>
 some x4
def Zhg (a:Zk) (b:Int):Option (List Int):=
 (ZbI a).bind fun x0=>
 bif (x0 != 0) then
  some ([]:List Int)
 else
  (Zl2 a (fun z0=>ZdD z0 b)).bind fun x1=>
  some x1
def Zix (a:Zb) (b:Int):Option (Zb×Int):=
 (ZbG a).bind fun x0=>
 bif (x0 != 0) then
  some ((Zb.mk ([]:List Int) 0 0),x0)
 else
  bif (decide (a.bottom<a.top)) then
   some ((Zb.mk ([]:List Int) 0 0),121)
  else
   bif ((w64 (a.bottom-a.top))==(a.ring.length:Int)) then
    some ((Zb.mk ([]:List Int) 0 0),121)
   else
    (ZfM a).bind fun x1=>
    (ZcF a a.bottom).bind fun x2=>
    (ZI a.ring x2).bind fun x3=>
    some ((Zb.mk (List.set a.ring x2.toNat b) a.top (w64 (a.bottom+1))),0)
def Zcz (b:Int) (c:Int) (m3_0:List Zb):Option ((List Zb)⊕(List Zb)):=
 (ZI m3_0 b).bind fun x0=>
 (Zix x0 c).bind fun x1=>
 bif (x1.2==0) then
  bif (x1.2==0) then
   some (.inl (List.set m3_0 b.toNat x1.1))
  else
   some (.inr (List.set m3_0 b.toNat x1.1))
 else
  bif (x1.2==0) then
   some (.inl m3_0)
  else
   some (.inr m3_0)
def ZaG (x2:List Int) (s3:Int×(List Zb)×(List Int)) (x6:List Int) (s7:Int×(List Zb)×(List Int)):Option ((Int×(List Zb)×(List Int))⊕(((List Zb)×(List Int))⊕((List Zb)×(List Int)))):=
 bif (decide (s7.1<(x6.length:Int))) then
  (ZI x6 s7.1).bind fun x8=>
  (Zz x2 x8).bind fun x9=>
  bif x9 then
   (Zz s7.2.2 x8).bind fun x10=>
   bif x10 then
    some (.inl ((w64 (s7.1+1)),s7.2.1,s7.2.2))
   else
    (Zcz s3.1 x8 s7.2.1).bind fun x11=>
    match x11 with
    | (.inl x11)=>
     bif (Nat.ble (List.length s7.2.2+1) lim) then
      some (.inl ((w64 (s7.1+1)),x11,(s7.2.2++[x8])))
     else
      none
    | (.inr x11)=>
     some (.inr (.inl (x11,s7.2.2)))
  else
   some (.inl ((w64 (s7.1+1)),s7.2.1,s7.2.2))
 else
  some (.inr (.inr (s7.2.1,s7.2.2)))
def ZaJ (m0_0:List Int) (m0_1:List Zt) (m1_0:List Int) (x1:((List Int)×(List Int)×(List Int))) (x2:List Int) (s3:Int×(List Zb)×(List Int)):Option ((Int×(List Zb)×(List Int))⊕((List Zb)⊕(List Zb))):=
 bif (decide (s3.1<(m1_0.length:Int))) then
  (ZI m1_0 s3.1).bind fun x4=>
  bif (x4==(-1)) then
   some (.inl ((w64 (s3.1+1)),s3.2.1,s3.2.2))
  else
   (ZI x1.1 s3.1).bind fun x5=>
   bif (x5 != (-1)) then
    some (.inl ((w64 (s3.1+1)),s3.2.1,s3.2.2))
   else
    (Zhg (Zk.mk m0_0 m0_1) x4).bind fun x6=>
    (lp (ZaG x2 s3 x6) (0,s3.2.1,s3.2.2)).bind fun r12=>
    match r12 with
    | (.inl r12)=>
     some (.inr (.inl r12.1))
    | (.inr r12)=>
     some (.inl ((w64 (s3.1+1)),r12.1,r12.2))
 else
  some (.inr (.inr s3.2.1))
def ZdM (m0_0:List Int) (m0_1:List Zt) (m1_0:List Int) (m2_0:List Int) (m3_0:List Zb):Option (Int⊕(((List Zb)×(List Int)×(List Int))⊕((List Zb)×(List Int)×(List Int)×(List Int)))):=
 (Zn m1_0).bind fun x0=>
 (ZfK (Zk.mk m0_0 m0_1) (ZK.mk m1_0 m2_0)).bind fun x1=>
 match x1 with
 | (.inl x1)=>
  bif (x1 != 0) then
   some (.inl x1)
  else
   none
 | (.inr x1)=>
  (ZcA (Zk.mk m0_0 m0_1) (ZK.mk x1.1 x1.2.1)).bind fun x2=>
  (lp (ZaJ m0_0 m0_1 m1_0 x1 x2) (0,m3_0,([]:List Int))).bind fun r13=>
  match r13 with
  | (.inl r13)=>
   some (.inr (.inl (r13,x1.1,x1.2.1)))
  | (.inr r13)=>
   some (.inr (.inr (r13,x1.2.2,x1.1,x1.2.1)))
def Zgp (a:Zk) (b:ZS):Option (ZS×(List Int)×Int):=
 (Zer a b).bind fun x0=>
 bif (x0 != 0) then
  some ((ZS.mk (ZK.mk ([]:List Int) ([]:List Int)) ([]:List Zb) ([]:List Zi) ([]:List Int)),([]:List Int),x0)
 else
  (ZfL b).bind fun x1=>
  (ZdM a.work a.edges b.crew.on b.crew.left x1).bind fun x2=>
  match x2 with
  | (.inl x2)=>
   bif (x2 != 0) then
    some ((ZS.mk (ZK.mk ([]:List Int) ([]:List Int)) ([]:List Zb) ([]:List Zi) ([]:List Int)),([]:List Int),x2)
   else
    none
  | (.inr (.inl x2))=>
   some ((ZS.mk (ZK.mk ([]:List Int) ([]:List Int)) ([]:List Zb) ([]:List Zi) ([]:List Int)),([]:List Int),130)
  | (.inr (.inr x2))=>
   some ((ZS.mk (ZK.mk x2.2.2.1 x2.2.2.2) x2.1 b.takers b.from_),x2.2.1,0)
def Zd5 (a:Zjc) (b:Zk) (c:ZS):Option (ZS×(List Int)×Int):=
 (Zgp b c).bind fun x0=>
 some (x0.1,x0.2.1,x0.2.2)
def ZcZ (m0_0:List Int) (s1:(List Int)×Int×(List Int)):Option (((List Int)×Int×(List Int))⊕(List Int)):=
 bif (decide (s1.2.1<(m0_0.length:Int))) then
  (ZI s1.2.2 s1.2.1).bind fun x2=>
  bif (x2==(-1)) then
   bif (decide (0<(s1.1.length:Int))) then
    (ZI s1.1 0).bind fun x3=>
    bif (Nat.ble 1 (List.length s1.1)) then
     some (.inl ((List.drop 1 s1.1),(w64 (s1.2.1+1)),(List.set s1.2.2 s1.2.1.toNat x3)))
    else
     none
   else
    some (.inl (s1.1,(w64 (s1.2.1+1)),s1.2.2))
  else
   some (.inl (s1.1,(w64 (s1.2.1+1)),s1.2.2))
 else
  some (.inr s1.2.2)
def Zjt (a:Zk) (m0_0:List Int) (m1_0:List Int):Option (List Int):=
 (ZeW a (ZK.mk m0_0 m1_0)).bind fun x0=>
 (lp (ZcZ m0_0) (x0,0,m0_0)).bind fun r4=>
 some r4
def Zg8 (a:Zk) (b:ZK):Option (ZK×Int):=
 (Zdr a b).bind fun x0=>
 bif (x0 != 0) then
  some ((ZK.mk ([]:List Int) ([]:List Int)),x0)
 else
  (Zfr b).bind fun x1=>
  (Zjt a b.on b.left).bind fun x2=>
  some ((ZK.mk x2 b.left),0)
def Zev (a:ZoP) (b:Zk) (c:ZS) (d:List Int):Option (ZS×Int×Int):=
 (Zg8 b c.crew).bind fun x0=>
 some ((ZS.mk x0.1 ([]:List Zb) ([]:List Zi) ([]:List Int)),0,x0.2)
def Zeu (a:ZoP) (b:Zk) (c:ZS):Option (ZS×(List Int)×Int):=
 (ZfK b c.crew).bind fun x0=>
 match x0 with
 | (.inl x0)=>
  some ((ZS.mk (ZK.mk ([]:List Int) ([]:List Int)) ([]:List Zb) ([]:List Zi) ([]:List Int)),([]:List Int),x0)
 | (.inr x0)=>
  some ((ZS.mk (ZK.mk x0.1 x0.2.1) ([]:List Zb) ([]:List Zi) ([]:List Int)),x0.2.2,0)
def ZfJ (a:Zk) (b:ZbS) (c:List Int):Option (ZbS×Zbp×Int):=
 bif b.stealing then
  (Zd7 true).bind fun x0=>
  match x0 with
  | (.inl x0)=>
   (Zeb (Zjc.mk ) a b.gang c).bind fun x1=>
   bif (x1.2.2 != 0) then
    some ((ZbS.mk false ([]:List Int) 0 (ZS.mk (ZK.mk ([]:List Int) ([]:List Int)) ([]:List Zb) ([]:List Zi) ([]:List Int))),(Zbp.mk ([]:List Int) ([]:List Int) 0),x1.2.2)
   else
    (Zn x1.1.crew.on).bind fun x2=>
    (Zd5 (Zjc.mk ) a x1.1).bind fun x3=>
    bif (x3.2.2 != 0) then
     some ((ZbS.mk false ([]:List Int) 0 (ZS.mk (ZK.mk ([]:List Int) ([]:List Int)) ([]:List Zb) ([]:List Zi) ([]:List Int))),(Zbp.mk ([]:List Int) ([]:List Int) 0),x3.2.2)
    else
     (Zn b.demand).bind fun x4=>
     (ZbC a b.demand x3.1.crew.left).bind fun x5=>
     some ((ZbS.mk b.stealing b.demand x5 x3.1),(Zbp.mk x1.1.crew.on x3.2.1 x1.2.1),0)
  | (.inr x0)=>
   (Zev (ZoP.mk ) a b.gang c).bind fun x6=>
   bif (x6.2.2 != 0) then
    some ((ZbS.mk false ([]:List Int) 0 (ZS.mk (ZK.mk ([]:List Int) ([]:List Int)) ([]:List Zb) ([]:List Zi) ([]:List Int))),(Zbp.mk ([]:List Int) ([]:List Int) 0),x6.2.2)
   else
    (Zn x6.1.crew.on).bind fun x7=>
    (Zeu (ZoP.mk ) a x6.1).bind fun x8=>
    bif (x8.2.2 != 0) then
     some ((ZbS.mk false ([]:List Int) 0 (ZS.mk (ZK.mk ([]:List Int) ([]:List Int)) ([]:List Zb) ([]:List Zi) ([]:List Int))),(Zbp.mk ([]:List Int) ([]:List Int) 0),x8.2.2)
    else
     (Zn b.demand).bind fun x9=>
     (ZbC a b.demand x8.1.crew.left).bind fun x10=>
     some ((ZbS.mk b.stealing b.demand x10 x8.1),(Zbp.mk x6.1.crew.on x8.2.1 x6.2.1),0)
 else
  (Zd7 false).bind fun x11=>
  match x11 with
  | (.inl x11)=>
   (Zeb (Zjc.mk ) a b.gang c).bind fun x12=>
   bif (x12.2.2 != 0) then
    some ((ZbS.mk false ([]:List Int) 0 (ZS.mk (ZK.mk ([]:List Int) ([]:List Int)) ([]:List Zb) ([]:List Zi) ([]:List Int))),(Zbp.mk ([]:List Int) ([]:List Int) 0),x12.2.2)
   else
    (Zn x12.1.crew.on).bind fun x13=>
    (Zd5 (Zjc.mk ) a x12.1).bind fun x14=>
    bif (x14.2.2 != 0) then
     some ((ZbS.mk false ([]:List Int) 0 (ZS.mk (ZK.mk ([]:List Int) ([]:List Int)) ([]:List Zb) ([]:List Zi) ([]:List Int))),(Zbp.mk ([]:List Int) ([]:List Int) 0),x14.2.2)
    else
     (Zn b.demand).bind fun x15=>
     (ZbC a b.demand x14.1.crew.left).bind fun x16=>
     some ((ZbS.mk b.stealing b.demand x16 x14.1),(Zbp.mk x12.1.crew.on x14.2.1 x12.2.1),0)
  | (.inr x11)=>
   (Zev (ZoP.mk ) a b.gang c).bind fun x17=>
   bif (x17.2.2 != 0) then
    some ((ZbS.mk false ([]:List Int) 0 (ZS.mk (ZK.mk ([]:List Int) ([]:List Int)) ([]:List Zb) ([]:List Zi) ([]:List Int))),(Zbp.mk ([]:List Int) ([]:List Int) 0),x17.2.2)
   else
    (Zn x17.1.crew.on).bind fun x18=>
    (Zeu (ZoP.mk ) a x17.1).bind fun x19=>
    bif (x19.2.2 != 0) then
     some ((ZbS.mk false ([]:List Int) 0 (ZS.mk (ZK.mk ([]:List Int) ([]:List Int)) ([]:List Zb) ([]:List Zi) ([]:List Int))),(Zbp.mk ([]:List Int) ([]:List Int) 0),x19.2.2)
    else
     (Zn b.demand).bind fun x20=>
     (ZbC a b.demand x19.1.crew.left).bind fun x21=>
     some ((ZbS.mk b.stealing b.demand x21 x19.1),(Zbp.mk x17.1.crew.on x19.2.1 x17.2.1),0)
def ZdS (a:Zk) (s1:Int×Int):Option ((Int×Int)⊕Int):=
 bif (decide (s1.2<(a.work.length:Int))) then
  (ZI a.work s1.2).bind fun x2=>
  some (.inl ((w64 (s1.1+x2)),(w64 (s1.2+1))))
 else
  some (.inr s1.1)
def ZeJ (a:Zk):Option Int:=
 (ZbI a).bind fun x0=>
 bif (x0==0) then
  (lp (ZdS a) (0,0)).bind fun r3=>
  some r3
 else
  some 0
def Ze3 (a:Zk) (b:List Int):Option Bool:=
 (Zha a).bind fun x0=>
 bif x0 then
  bif (decide ((b.length:Int)≤70)) then
   (Zcs a).bind fun x1=>
   (ZeJ a).bind fun x2=>
   bif (decide (x2≤300)) then
    some true
   else
    some false
  else
   some false
 else
  some false
def Zbr (a:Int):Option Bool:=
 bif (decide (a<1)) then
  some true
 else
  bif (decide (1000<a)) then
   some true
  else
   some false
def Zeo (a:Zk) (b:List Int) (c:Int):Option (Bool×Int):=
 (ZbI a).bind fun x0=>
 bif (x0 != 0) then
  some (false,x0)
 else
  bif ((b.length:Int)==(a.work.length:Int)) then
   (Zw b (fun z0=>Zbr z0)).bind fun x1=>
   bif x1 then
    some (false,0)
   else
    bif (decide (1≤c)) then
     bif (decide (c≤8)) then
      some (true,0)
     else
      some (false,0)
    else
     some (false,0)
  else
   some (false,0)
def ZaO (a:List Int) (b0:Int):Option Bool:=
 bif ((a.length:Int) != b0) then
  some true
 else
  some false
def Zac (a:(List (List Int))) (b:((List Int)→Option Bool)) (s0:Int):Option (Int⊕(Int⊕Unit)):=
 bif (decide (s0<(a.length:Int))) then
  (ZI a s0).bind fun x1=>
  (b x1).bind fun x2=>
  bif x2 then
   some (.inr (.inl s0))
  else
   some (.inl (w64 (s0+1)))
 else
  some (.inr (.inr ()))
def Zal (a:(List (List Int))) (b:((List Int)→Option Bool)):Option Int:=
 (lp (Zac a b) 0).bind fun r3=>
 match r3 with
 | (.inl r3)=>
  some r3
 | (.inr r3)=>
  some (-1)
def ZG (a:(List (List Int))) (b:((List Int)→Option Bool)):Option Bool:=
 (Zal a b).bind fun x0=>
 bif (decide (0≤x0)) then
  some true
 else
  some false
def Za1 (a:List Int) (s0:Int×(List Int)):Option ((Int×(List Int))⊕(List Int)):=
 bif (decide (s0.1<(a.length:Int))) then
  (ZI s0.2 s0.1).bind fun x1=>
  some (.inl ((w64 (s0.1+1)),(List.set s0.2 s0.1.toNat (-1))))
 else
  some (.inr s0.2)
def Zel (a:List Int):Option (List Int):=
 bif (decide (0≤(a.length:Int))&&decide ((a.length:Int)≤lim)&&decide ((a.length:Int)==(a.length:Int))) then
  bif (decide (0≤(a.length:Int))&&decide ((a.length:Int)≤lim)&&decide ((a.length:Int)==(a.length:Int))) then
   bif (decide (0≤(a.length:Int))&&decide ((a.length:Int)≤lim)&&decide ((a.length:Int)==(a.length:Int))) then
    (lp (Za1 a) (0,(List.replicate (a.length:Int).toNat (0:Int)))).bind fun r2=>
    some r2
   else
    none
  else
   none
 else
  none
def ZdL (a3:List Int) (b:Int) (c:Int):Option Bool:=
 (ZI a3 b).bind fun x0=>
 bif (decide (0≤x0)) then
  bif (decide (x0≤c)) then
   some true
  else
   some false
 else
  some false
def ZaQ (a:Zt) (b0:Int) (c3:List Int) (d0:Int):Option Bool:=
 bif (a.dst==b0) then
  (ZdL c3 a.src d0).bind fun x0=>
  bif x0 then
   some false
  else
   some true
 else
  some false
def Zbn (a3:List Int) (b:Zk) (c:Int) (d:Int):Option Bool:=
 (ZQ b.edges (fun z0=>ZaQ z0 c a3 d)).bind fun x0=>
 bif x0 then
  some false
 else
  some true
def Za7 (a0:List Int) (a1:List Int) (a2:List ZD) (a3:List Int) (b:Zk) (c:List Int) (d:Int) (e:Int):Option Int:=
 (ZI c e).bind fun x0=>
 bif (decide (x0<(-1))) then
  some 101
 else
  bif (decide ((a0.length:Int)≤x0)) then
   some 101
  else
   bif (decide (0≤e)) then
    bif (Nat.ble e.toNat (List.length c)) then
     (Zz (List.take e.toNat c) x0).bind fun x1=>
     bif x1 then
      some 102
     else
      (ZI a1 x0).bind fun x2=>
      (ZI a0 x0).bind fun x3=>
      bif (decide (x3≤x2)) then
       some 105
      else
       bif (decide (0<x2)) then
        (ZI a2 x0).bind fun x4=>
        bif (!((x4.a0==(w64 (d-1)))&&((x4.a1==e)&&true))) then
         some 104
        else
         bif (x2==0) then
          (Zbn a3 b x0 d).bind fun x5=>
          bif x5 then
           some 0
          else
           some 103
         else
          some 0
       else
        bif (x2==0) then
         (Zbn a3 b x0 d).bind fun x6=>
         bif x6 then
          some 0
         else
          some 103
        else
         some 0
    else
     none
   else
    none
def ZiD (b:Int) (c:List Int):Option Unit:=
 some ()
def ZbL (b:Int) (c:Int) (d:Int) (m0_0:List Int) (m1_0:List Int) (m2_0:List ZD) (m3_0:List Int):Option ((List Int)×(List Int)):=
 (ZI m1_0 b).bind fun x0=>
 (ZI m2_0 b).bind fun x1=>
 (ZI (List.set m1_0 b.toNat (w64 (x0+1))) b).bind fun x2=>
 (ZI m0_0 b).bind fun x3=>
 bif (x2==x3) then
  (ZI m3_0 b).bind fun x4=>
  some ((List.set m1_0 b.toNat (w64 (x0+1))),(List.set m3_0 b.toNat (w64 (c+1))))
 else
  some ((List.set m1_0 b.toNat (w64 (x0+1))),m3_0)
def Zdy (a:Zk) (b:List Int) (s3:Int×Int×(List Int)×(List ZD)×(List Int)) (x4:List Int) (s5:Int×Int):Option ((Int×Int)⊕(Int⊕Int)):=
 bif (decide (s5.2<(x4.length:Int))) then
  (ZI x4 s5.2).bind fun x6=>
  bif (x6==(-1)) then
   some (.inl (s5.1,(w64 (s5.2+1))))
  else
   (Za7 b s3.2.2.1 s3.2.2.2.1 s3.2.2.2.2 a x4 s3.2.1 s5.2).bind fun x7=>
   bif (x7 != 0) then
    some (.inr (.inl x7))
   else
    some (.inl (x7,(w64 (s5.2+1))))
 else
  some (.inr (.inr s5.1))
def Zdv (b:List Int) (s3:Int×Int×(List Int)×(List ZD)×(List Int)) (x4:List Int) (s10:Int×(List Int)×(List ZD)×(List Int)):Option ((Int×(List Int)×(List ZD)×(List Int))⊕((List Int)×(List ZD)×(List Int))):=
 bif (decide (s10.1<(x4.length:Int))) then
  (ZI x4 s10.1).bind fun x11=>
  bif (x11 != (-1)) then
   (ZbL x11 s3.2.1 s10.1 b s10.2.1 s10.2.2.1 s10.2.2.2).bind fun x12=>
   some (.inl ((w64 (s10.1+1)),x12.1,(List.set s10.2.2.1 x11.toNat (ZD.mk s3.2.1 s10.1)),x12.2))
  else
   some (.inl ((w64 (s10.1+1)),s10.2.1,s10.2.2.1,s10.2.2.2))
 else
  some (.inr (s10.2.1,s10.2.2.1,s10.2.2.2))
def Zcl (a:Zk) (b:List Int) (d:(List (List Int))) (s3:Int×Int×(List Int)×(List ZD)×(List Int)):Option ((Int×Int×(List Int)×(List ZD)×(List Int))⊕(Int×(List Int)×(List ZD)×(List Int))):=
 bif (decide (s3.2.1<(d.length:Int))) then
  (ZI d s3.2.1).bind fun x4=>
  (lp (Zdy a b s3 x4) (s3.1,0)).bind fun r8=>
  match r8 with
  | (.inl r8)=>
   some (.inr (r8,s3.2.2.1,s3.2.2.2.1,s3.2.2.2.2))
  | (.inr r8)=>
   (ZiD s3.2.1 x4).bind fun x9=>
   (lp (Zdv b s3 x4) (0,s3.2.2.1,s3.2.2.2.1,s3.2.2.2.2)).bind fun r13=>
   some (.inl (r8,(w64 (s3.2.1+1)),r13.1,r13.2.1,r13.2.2))
 else
  some (.inr (s3.1,s3.2.2.1,s3.2.2.2.1,s3.2.2.2.2))
def Zec (a:Zk) (b:List Int) (c:Int) (d:(List (List Int))):Option (Int⊕(Int×(List Int)×(List ZD)×(List Int))):=
 (Zeo a b c).bind fun x0=>
 bif x0.1 then
  bif (x0.2 != 0) then
   some (.inl x0.2)
  else
   bif (decide (4096<(d.length:Int))) then
    some (.inl 100)
   else
    (ZG d (fun z0=>ZaO z0 c)).bind fun x1=>
    bif x1 then
     some (.inl 100)
    else
     (Zel b).bind fun x2=>
     (lp (Zcl a b d) (x0.2,0,(List.replicate (b.length:Int).toNat (0:Int)),(List.replicate (b.length:Int).toNat ((ZD.mk 0 0):ZD)),x2)).bind fun r14=>
     some (.inr (r14.1,r14.2.1,r14.2.2.1,r14.2.2.2))
 else
  bif (x0.2 != 0) then
   some (.inl x0.2)
  else
   some (.inl 100)
def ZcL (a:Zk) (b:List Int) (c:Int) (d:(List (List Int))):Option Int:=
 (Zec a b c d).bind fun x0=>
 match x0 with
 | (.inl x0)=>
  some x0
 | (.inr x0)=>
  some x0.1
def ZdC (c:Int) (s2:Int×(List Int)):Option ((Int×(List Int))⊕(List Int)):=
 bif (decide (s2.1<c)) then
  bif (Nat.ble (List.length s2.2+1) lim) then
   some (.inl ((w64 (s2.1+1)),(s2.2++[(-1)])))
  else
   none
 else
  some (.inr s2.2)
def Zfz (a:Zk) (b:List Int) (c:Int):Option (Int⊕(List Int)):=
 (ZcL a b c ([]:List (List Int))).bind fun x0=>
 bif (x0 != 0) then
  some (.inl x0)
 else
  (Zn b).bind fun x1=>
  (lp (ZdC c) (0,([]:List Int))).bind fun r3=>
  some (.inr r3)
def Zhm (a:Int):Option (Zb×Int):=
 (Zgx a).bind fun x0=>
 match x0 with
 | (.inl x0)=>
  some ((Zb.mk ([]:List Int) 0 0),120)
 | (.inr x0)=>
  bif (decide (64<a)) then
   some ((Zb.mk ([]:List Int) 0 0),120)
  else
   bif (decide (0≤a)&&decide (a≤lim)&&decide (a==a)) then
    some ((Zb.mk (List.replicate a.toNat (0:Int)) 0 0),0)
   else
    none
def Zc4 (c:Int) (s1:Int×(List Zb)):Option ((Int×(List Zb))⊕(List Zb)):=
 bif (decide (s1.1<c)) then
  (Zhm 64).bind fun x2=>
  bif (Nat.ble (List.length s1.2+1) lim) then
   some (.inl ((w64 (s1.1+1)),(s1.2++[x2.1])))
  else
   none
 else
  some (.inr s1.2)
def Zc0 (c:Int) (x4:List Int) (s5:Int×(List Zb)):Option ((Int×(List Zb))⊕(List Zb)):=
 bif (decide (s5.1<(x4.length:Int))) then
  (ZI x4 s5.1).bind fun x6=>
  bif (c==0) then
   none
  else
   (Zcz (Int.tmod x6 c) x6 s5.2).bind fun x7=>
   match x7 with
   | (.inl x7)=>
    some (.inl ((w64 (s5.1+1)),x7))
   | (.inr x7)=>
    some (.inl ((w64 (s5.1+1)),x7))
 else
  some (.inr s5.2)
def Zhj (a:Zk) (b:List Int) (c:Int):Option (Int⊕((List Int)×(List Zb))):=
 (Zfz a b c).bind fun x0=>
 match x0 with
 | (.inl x0)=>
  bif (x0 != 0) then
   some (.inl x0)
  else
   none
 | (.inr x0)=>
  bif (decide (0≤c)&&decide (c≤lim)&&decide (c==c)) then
   bif (decide (0≤c)&&decide (c≤lim)&&decide (c==c)) then
    (lp (Zc4 c) (0,([]:List Zb))).bind fun r3=>
    (ZcA a (ZK.mk x0 b)).bind fun x4=>
    (lp (Zc0 c x4) (0,r3)).bind fun r8=>
    some (.inr (x0,r8))
   else
    none
  else
   none
def Ze9 (a:Zjc) (b:Zk) (c:List Int) (d:Int):Option (ZS×Int):=
 (Zhj b c d).bind fun x0=>
 match x0 with
 | (.inl x0)=>
  some ((ZS.mk (ZK.mk ([]:List Int) ([]:List Int)) ([]:List Zb) ([]:List Zi) ([]:List Int)),x0)
 | (.inr x0)=>
  some ((ZS.mk (ZK.mk x0.1 c) x0.2 (List.replicate d.toNat ((Zi.mk false 0 0 0 0 0):Zi)) (List.replicate d.toNat (0:Int))),0)
def Zfp (a:ZoP) (b:Zk) (c:List Int) (d:Int):Option (ZS×Int):=
 (Zfz b c d).bind fun x0=>
 match x0 with
 | (.inl x0)=>
  some ((ZS.mk (ZK.mk ([]:List Int) ([]:List Int)) ([]:List Zb) ([]:List Zi) ([]:List Int)),x0)
 | (.inr x0)=>
  some ((ZS.mk (ZK.mk x0 c) ([]:List Zb) ([]:List Zi) ([]:List Int)),0)
def ZeA (a:Zk) (b:List Int) (c:Int) (d:Bool):Option (ZbS×Int):=
 (ZbI a).bind fun x0=>
 bif (x0 != 0) then
  some ((ZbS.mk false ([]:List Int) 0 (ZS.mk (ZK.mk ([]:List Int) ([]:List Int)) ([]:List Zb) ([]:List Zi) ([]:List Int))),x0)
 else
  (Ze8 a b).bind fun x1=>
  bif x1 then
   bif (decide (c<1)) then
    some ((ZbS.mk false ([]:List Int) 0 (ZS.mk (ZK.mk ([]:List Int) ([]:List Int)) ([]:List Zb) ([]:List Zi) ([]:List Int))),190)
   else
    bif (decide (8<c)) then
     some ((ZbS.mk false ([]:List Int) 0 (ZS.mk (ZK.mk ([]:List Int) ([]:List Int)) ([]:List Zb) ([]:List Zi) ([]:List Int))),190)
    else
     (Zd7 d).bind fun x2=>
     match x2 with
     | (.inl x2)=>
      (ZeK a b).bind fun x3=>
      (Ze9 (Zjc.mk ) a x3 c).bind fun x4=>
      bif (x4.2 != 0) then
       some ((ZbS.mk false ([]:List Int) 0 (ZS.mk (ZK.mk ([]:List Int) ([]:List Int)) ([]:List Zb) ([]:List Zi) ([]:List Int))),x4.2)
      else
       (Zn b).bind fun x5=>
       (ZbC a b x4.1.crew.left).bind fun x6=>
       some ((ZbS.mk d b x6 x4.1),0)
     | (.inr x2)=>
      (ZeK a b).bind fun x7=>
      (Zfp (ZoP.mk ) a x7 c).bind fun x8=>
      bif (x8.2 != 0) then
       some ((ZbS.mk false ([]:List Int) 0 (ZS.mk (ZK.mk ([]:List Int) ([]:List Int)) ([]:List Zb) ([]:List Zi) ([]:List Int))),x8.2)
      else
       (Zn b).bind fun x9=>
       (ZbC a b x8.1.crew.left).bind fun x10=>
       some ((ZbS.mk d b x10 x8.1),0)
  else
   some ((ZbS.mk false ([]:List Int) 0 (ZS.mk (ZK.mk ([]:List Int) ([]:List Int)) ([]:List Zb) ([]:List Zi) ([]:List Int))),190)
def Zes (x0:(ZbS×Int)) (s1:Int×Int):Option ((Int×Int)⊕Int):=
 bif (decide (s1.2<(x0.1.gang.crew.left.length:Int))) then
  (ZI x0.1.gang.crew.left s1.2).bind fun x2=>
  some (.inl ((w64 (s1.1+x2)),(w64 (s1.2+1))))
 else
  some (.inr s1.1)
def ZdH (a:Zk) (s4:(List Int)×Bool×(List Int)×Int×(List Int)×(List Int)×(List Zb)×(List Zi)×(List Int)×(List (List Int))):Option (((List Int)×Bool×(List Int)×Int×(List Int)×(List Int)×(List Zb)×(List Zi)×(List Int)×(List (List Int)))⊕((Int×Bool×(List Int)×Int×(List Int)×(List Int)×(List Zb)×(List Zi)×(List Int)×(List (List Int)))⊕(Bool×(List Int)×Int×(List Int)×(List Int)×(List Zb)×(List Zi)×(List Int)×(List (List Int))))):=
 bif (s4.2.2.2.1==1) then
  (ZfJ a (ZbS.mk s4.2.1 s4.2.2.1 s4.2.2.2.1 (ZS.mk (ZK.mk s4.2.2.2.2.1 s4.2.2.2.2.2.1) s4.2.2.2.2.2.2.1 s4.2.2.2.2.2.2.2.1 s4.2.2.2.2.2.2.2.2.1)) s4.1).bind fun x5=>
  bif (x5.2.2 != 0) then
   some (.inr (.inl (x5.2.2,s4.2.1,s4.2.2.1,s4.2.2.2.1,s4.2.2.2.2.1,s4.2.2.2.2.2.1,s4.2.2.2.2.2.2.1,s4.2.2.2.2.2.2.2.1,s4.2.2.2.2.2.2.2.2.1,s4.2.2.2.2.2.2.2.2.2)))
  else
   bif (decide (0≤(bif decide ((s4.1.length:Int)<x5.2.1.steps) then (s4.1.length:Int) else x5.2.1.steps))) then
    bif (Nat.ble (bif decide ((s4.1.length:Int)<x5.2.1.steps) then (s4.1.length:Int) else x5.2.1.steps).toNat (List.length s4.1)) then
     bif (Nat.ble (List.length s4.2.2.2.2.2.2.2.2.2+1) lim) then
      some (.inl ((List.drop (bif decide ((s4.1.length:Int)<x5.2.1.steps) then (s4.1.length:Int) else x5.2.1.steps).toNat s4.1),x5.1.stealing,x5.1.demand,x5.1.state,x5.1.gang.crew.on,x5.1.gang.crew.left,x5.1.gang.deques,x5.1.gang.takers,x5.1.gang.from_,(s4.2.2.2.2.2.2.2.2.2++[x5.2.1.on])))
     else
      none
    else
     none
   else
    none
 else
  some (.inr (.inr (s4.2.1,s4.2.2.1,s4.2.2.2.1,s4.2.2.2.2.1,s4.2.2.2.2.2.1,s4.2.2.2.2.2.2.1,s4.2.2.2.2.2.2.2.1,s4.2.2.2.2.2.2.2.2.1,s4.2.2.2.2.2.2.2.2.2)))
def Zfx (a:Zk) (b:List Int) (c:Int) (d:Bool) (e:List Int):Option ((List (List Int))×Int×Int):=
 (ZeA a b c d).bind fun x0=>
 bif (x0.2 != 0) then
  some (([]:List (List Int)),0,x0.2)
 else
  (lp (Zes x0) (0,0)).bind fun r3=>
  bif (decide (4096<r3)) then
   some (([]:List (List Int)),0,190)
  else
   (lp (ZdH a) (e,x0.1.stealing,x0.1.demand,x0.1.state,x0.1.gang.crew.on,x0.1.gang.crew.left,x0.1.gang.deques,x0.1.gang.takers,x0.1.gang.from_,([]:(List (List Int))))).bind fun r6=>
   match r6 with
   | (.inl r6)=>
    some (([]:List (List Int)),0,r6.1)
   | (.inr r6)=>
    some (r6.2.2.2.2.2.2.2.2,r6.2.2.1,0)
def Zhb (a:Zk) (b:List Int):Option (List Int):=
 (ZbI a).bind fun x0=>
 bif (x0 != 0) then
  some ([]:List Int)
 else
  (Ze8 a b).bind fun x1=>
  bif x1 then
   (ZeK a b).bind fun x2=>
   some x2
  else
   some ([]:List Int)
def Zgr (a:Zk) (b:List Int) (c:Int) (d:(List (List Int))):Option (List Int):=
 (Zec a b c d).bind fun x0=>
 match x0 with
 | (.inl x0)=>
  bif (x0 != 0) then
   some ([]:List Int)
  else
   none
 | (.inr x0)=>
  bif (x0.1 != 0) then
   some ([]:List Int)
  else
   some x0.2.2.2
def Zan (b:Int) (c:List Int) (m1_0:List Int) (m2_0:List Int) (m2_1:List Zt) (m4_0:List Int) (m6_0:List Int) (s0:Int×Bool):Option ((Int×Bool)⊕Bool):=
 bif (decide (s0.1<(m1_0.length:Int))) then
  (ZI m4_0 s0.1).bind fun x1=>
  bif (x1==0) then
   (Zz c (-1)).bind fun x2=>
   bif x2 then
    (Zz c s0.1).bind fun x3=>
    bif x3 then
     some (.inl ((w64 (s0.1+1)),s0.2))
    else
     (Zbn m6_0 (Zk.mk m2_0 m2_1) s0.1 b).bind fun x4=>
     bif x4 then
      some (.inl ((w64 (s0.1+1)),false))
     else
      some (.inl ((w64 (s0.1+1)),s0.2))
   else
    some (.inl ((w64 (s0.1+1)),s0.2))
  else
   some (.inl ((w64 (s0.1+1)),s0.2))
 else
  some (.inr s0.2)
def ZcU (b:Int) (c:List Int) (m1_0:List Int) (m2_0:List Int) (m2_1:List Zt) (m3_0:Bool) (m4_0:List Int) (m6_0:List Int):Option Bool:=
 (lp (Zan b c m1_0 m2_0 m2_1 m4_0 m6_0) (0,m3_0)).bind fun r5=>
 some r5
def ZbV (a:Zk) (b:List Int) (s3:Int×Int×Bool×(List Int)×(List ZD)×(List Int)) (x4:List Int) (s5:Int×Int):Option ((Int×Int)⊕(Int⊕Int)):=
 bif (decide (s5.2<(x4.length:Int))) then
  (ZI x4 s5.2).bind fun x6=>
  bif (x6==(-1)) then
   some (.inl (s5.1,(w64 (s5.2+1))))
  else
   (Za7 b s3.2.2.2.1 s3.2.2.2.2.1 s3.2.2.2.2.2 a x4 s3.2.1 s5.2).bind fun x7=>
   bif (x7 != 0) then
    some (.inr (.inl x7))
   else
    some (.inl (x7,(w64 (s5.2+1))))
 else
  some (.inr (.inr s5.1))
def ZbR (b:List Int) (s3:Int×Int×Bool×(List Int)×(List ZD)×(List Int)) (x4:List Int) (s10:Int×(List Int)×(List ZD)×(List Int)):Option ((Int×(List Int)×(List ZD)×(List Int))⊕((List Int)×(List ZD)×(List Int))):=
 bif (decide (s10.1<(x4.length:Int))) then
  (ZI x4 s10.1).bind fun x11=>
  bif (x11 != (-1)) then
   (ZbL x11 s3.2.1 s10.1 b s10.2.1 s10.2.2.1 s10.2.2.2).bind fun x12=>
   some (.inl ((w64 (s10.1+1)),x12.1,(List.set s10.2.2.1 x11.toNat (ZD.mk s3.2.1 s10.1)),x12.2))
  else
   some (.inl ((w64 (s10.1+1)),s10.2.1,s10.2.2.1,s10.2.2.2))
 else
  some (.inr (s10.2.1,s10.2.2.1,s10.2.2.2))
def Za4 (a:Zk) (b:List Int) (d:(List (List Int))) (m0_0:List Int) (m1_0:List Int) (m1_1:List Zt) (s3:Int×Int×Bool×(List Int)×(List ZD)×(List Int)):Option ((Int×Int×Bool×(List Int)×(List ZD)×(List Int))⊕(Int×Bool×(List Int)×(List ZD)×(List Int))):=
 bif (decide (s3.2.1<(d.length:Int))) then
  (ZI d s3.2.1).bind fun x4=>
  (lp (ZbV a b s3 x4) (s3.1,0)).bind fun r8=>
  match r8 with
  | (.inl r8)=>
   some (.inr (r8,s3.2.2.1,s3.2.2.2.1,s3.2.2.2.2.1,s3.2.2.2.2.2))
  | (.inr r8)=>
   (ZcU s3.2.1 x4 m0_0 m1_0 m1_1 s3.2.2.1 s3.2.2.2.1 s3.2.2.2.2.2).bind fun x9=>
   (lp (ZbR b s3 x4) (0,s3.2.2.2.1,s3.2.2.2.2.1,s3.2.2.2.2.2)).bind fun r13=>
   some (.inl (r8,(w64 (s3.2.1+1)),x9,r13.1,r13.2.1,r13.2.2))
 else
  some (.inr (s3.1,s3.2.2.1,s3.2.2.2.1,s3.2.2.2.2.1,s3.2.2.2.2.2))
def Zf5 (a:Zk) (b:List Int) (c:Int) (d:(List (List Int))) (m0_0:List Int) (m1_0:List Int) (m1_1:List Zt):Option (Int⊕(Int×Bool×(List Int)×(List ZD)×(List Int))):=
 (Zeo a b c).bind fun x0=>
 bif x0.1 then
  bif (x0.2 != 0) then
   some (.inl x0.2)
  else
   bif (decide (4096<(d.length:Int))) then
    some (.inl 100)
   else
    (ZG d (fun z0=>ZaO z0 c)).bind fun x1=>
    bif x1 then
     some (.inl 100)
    else
     (Zel b).bind fun x2=>
     (lp (Za4 a b d m0_0 m1_0 m1_1) (x0.2,0,true,(List.replicate (b.length:Int).toNat (0:Int)),(List.replicate (b.length:Int).toNat ((ZD.mk 0 0):ZD)),x2)).bind fun r14=>
     some (.inr (r14.1,r14.2.1,r14.2.2.1,r14.2.2.2.1,r14.2.2.2.2))
 else
  bif (x0.2 != 0) then
   some (.inl x0.2)
  else
   some (.inl 100)
def Zfc (a:Zk) (b:List Int) (c:Int) (d:(List (List Int))):Option Bool:=
 (Zf5 a b c d b a.work a.edges).bind fun x0=>
 match x0 with
 | (.inl x0)=>
  bif (x0==0) then
   none
  else
   some false
 | (.inr x0)=>
  bif x0.2.1 then
   bif (x0.1==0) then
    some true
   else
    some false
  else
   some false
def Zaj (a:Zk) (b:List Int) (x6:((List (List Int))×Int×Int)) (x12:List Int) (s19:Bool×Int):Option ((Bool×Int)⊕(Unit⊕(Unit⊕(Unit⊕Unit)))):=
 bif s19.1 then
  bif (decide (s19.2<(x12.length:Int))) then
   (ZI b s19.2).bind fun x20=>
   (ZI a.work s19.2).bind fun x21=>
   bif (decide (x21<x20)) then
    (ZI x12 s19.2).bind fun x22=>
    bif (decide (0≤x22)) then
     bif (x22 != (x6.1.length:Int)) then
      some (.inr (.inl ()))
     else
      bif (x6.2.1==2) then
       bif (decide (x22<0)) then
        some (.inr (.inl ()))
       else
        bif (decide (x21<x20)) then
         some (.inr (.inl ()))
        else
         some (.inl (true,(w64 (s19.2+1))))
      else
       some (.inl (true,(w64 (s19.2+1))))
    else
     bif (x6.2.1==2) then
      bif (decide (x22<0)) then
       some (.inr (.inl ()))
      else
       bif (decide (x21<x20)) then
        some (.inr (.inl ()))
       else
        some (.inl (true,(w64 (s19.2+1))))
     else
      some (.inl (true,(w64 (s19.2+1))))
   else
    bif (x6.2.1==2) then
     (ZI x12 s19.2).bind fun x23=>
     bif (decide (x23<0)) then
      some (.inr (.inl ()))
     else
      bif (decide (x21<x20)) then
       some (.inr (.inl ()))
      else
       some (.inl (true,(w64 (s19.2+1))))
    else
     some (.inl (true,(w64 (s19.2+1))))
  else
   some (.inr (.inr (.inl ())))
 else
  bif (decide (s19.2<(x12.length:Int))) then
   (ZI b s19.2).bind fun x24=>
   (ZI a.work s19.2).bind fun x25=>
   bif (decide (x25<x24)) then
    (ZI x12 s19.2).bind fun x26=>
    bif (decide (0≤x26)) then
     bif (x26 != (x6.1.length:Int)) then
      some (.inr (.inl ()))
     else
      bif (x6.2.1==2) then
       bif (decide (x26<0)) then
        some (.inr (.inl ()))
       else
        bif (decide (x25<x24)) then
         some (.inr (.inl ()))
        else
         some (.inl (true,(w64 (s19.2+1))))
      else
       some (.inl (true,(w64 (s19.2+1))))
    else
     bif (x6.2.1==2) then
      bif (decide (x26<0)) then
       some (.inr (.inr (.inr (.inl ()))))
      else
       bif (decide (x25<x24)) then
        some (.inr (.inr (.inr (.inl ()))))
       else
        some (.inl (false,(w64 (s19.2+1))))
     else
      some (.inl (false,(w64 (s19.2+1))))
   else
    bif (x6.2.1==2) then
     (ZI x12 s19.2).bind fun x27=>
     bif (decide (x27<0)) then
      some (.inr (.inr (.inr (.inl ()))))
     else
      bif (decide (x25<x24)) then
       some (.inr (.inr (.inr (.inl ()))))
      else
       some (.inl (false,(w64 (s19.2+1))))
    else
     some (.inl (false,(w64 (s19.2+1))))
  else
   some (.inr (.inr (.inr (.inr ()))))
def ZeP (a:Zk) (b:List Int) (c:Int) (d:Bool) (e:List Int):Option Bool:=
 ZdG.bind fun x0=>
 bif x0 then
  (Ze3 a b).bind fun x1=>
  bif x1 then
   bif (decide (600<(e.length:Int))) then
    ZdG.bind fun x2=>
    bif x2 then
     some true
    else
     some false
   else
    (Zcs a).bind fun x3=>
    (Zbz b).bind fun x4=>
    (Zbz e).bind fun x5=>
    (Zfx a b c d e).bind fun x6=>
    bif (x6.2.2 != 0) then
     bif (x6.2.1==0) then
      some true
     else
      some false
    else
     (Zcs a).bind fun x7=>
     (Zbz b).bind fun x8=>
     (Zhb a b).bind fun x9=>
     (Zcs a).bind fun x10=>
     (Zbz x9).bind fun x11=>
     (Zgr a x9 c x6.1).bind fun x12=>
     (Zcs a).bind fun x13=>
     (Zbz x9).bind fun x14=>
     (ZcL a x9 c x6.1).bind fun x15=>
     bif (x15 != 0) then
      some false
     else
      (Zcs a).bind fun x16=>
      (Zbz x9).bind fun x17=>
      (Zfc a x9 c x6.1).bind fun x18=>
      bif x18 then
       bif ((x12.length:Int) != (x9.length:Int)) then
        some false
       else
        (lp (Zaj a b x6 x12) (false,0)).bind fun r28=>
        match r28 with
        | (.inl r28)=>
         some false
        | (.inr (.inl r28))=>
         bif (x6.2.1==3) then
          some true
         else
          some false
        | (.inr (.inr (.inl r28)))=>
         some false
        | (.inr (.inr (.inr r28)))=>
         bif (x6.2.1==3) then
          some false
         else
          some true
      else
       some false
  else
   ZdG.bind fun x29=>
   bif x29 then
    some true
   else
    some false
 else
  ZdG.bind fun x30=>
  bif x30 then
   some true
  else
   some false
end
def Zxn (n a b:Int):Bool:=decide (a≤n)&&decide (n≤b)
theorem Zh3 {γ:Type} (l:List γ) (p:γ→Bool) (step:Int→Option (Int⊕(Int⊕Unit)))
  (h1:∀i x,i<l.length→l[i]? = some x→step (i:Int)=some (bif p x then .inr (.inl (i:Int)) else .inl ((i+1:Nat):Int)))
  (h2:step (l.length:Int)=some (.inr (.inr ()))) :
  (((lp step 0).bind fun(r:Int⊕Unit)=>match r with | .inl r=>some r | .inr _=>some (-1)).bind fun x=>bif decide (0≤x) then some true else some false)=some (l.any p):=by
 rw[ZjO l step (fun _=>p) (fun i _=>.inl (i:Int)) (.inr ()) h1 h2]
 rcases Zom p () l 0 with⟨j,e1,e2⟩ | ⟨e1,e2⟩
 ·rw[e1,e2]
  show(bif decide ((0:Int)≤(j:Int)) then some true else some false)=some true
  rw[decide_eq_true (by omega)]
  rfl
 ·rw[e1,e2]
  rfl
def Zrw (e x:Zt):Bool:=e.src==x.src&&(e.dst==x.dst&&true)
theorem Zvu (l:List Zt) (e:Zt) (hl:l.length<9223372036854775808):Zaw l e=some (l.any (Zrw e)):=by
 unfold Zaw ZbO
 refine Zh3 l (Zrw e) _ (fun i x hi hx=>?_) ?_
 ·simp only[Zat,Zds hi,ZE hx,Option.bind_some,ZR hi hl,cond_true,Zrw]
  cases (e.src==x.src&&(e.dst==x.dst&&true))<;>rfl
 ·simp only[Zat,Zdz];rfl
def again (f g:ZtI):Bool:=g.user==f.user&&g.pos==f.pos
theorem ZgX (l:List Int) (n:Int) (hl:l.length<9223372036854775808):Zz l n=some (l.any (fun x=>n==x)):=by
 unfold Zz ZcK
 refine Zh3 l (fun x=>n==x) _ (fun i x hi hx=>?_) ?_
 ·simp only[ZaL,Zds hi,ZE hx,Option.bind_some,ZR hi hl,cond_true]
  cases (n==x)<;>rfl
 ·simp only[ZaL,Zdz];rfl
theorem Zeq (l:List Int) (f:Int→Option Bool) (p:Int→Bool) (hf:∀x∈l,f x=some (p x)) (hl:l.length<9223372036854775808):Zw l f=some (l.any p):=by
 unfold Zw ZC
 refine Zh3 l p _ (fun i x hi hx=>?_) ?_
 ·simp only[Zv,Zds hi,ZE hx,Option.bind_some,hf x (List.mem_of_getElem? hx),ZR hi hl,cond_true]
  cases p x<;>rfl
 ·simp only[Zv,Zdz];rfl
def two (n:Nat) (a b:Int):Bool:=(a != b)&&(Zxn a 0 (n-1)&&Zxn b 0 (n-1))
def Zjj (n:Int):Int:=bif decide (n<0) then 10 else bif decide (1099511627775<n) then 11 else 0
theorem ZnB (n:Int):ZfH n=some (Zjj n):=by
 unfold ZfH Zjj
 cases decide (n<0)<;>cases decide (1099511627775<n)<;>rfl
noncomputable def ZuB (x:Int):Int:=match Zbo x with | some n=>n | none=>0
theorem ZAf (x:Int):ZbZ x=some (ZuB x):=by
 unfold ZbZ ZuB Zbo
 rfl
def ZAD (n:Nat):Bool:=[1,2,4,8,16,32,64,128,256,512,1024,2048,4096].contains n
theorem Zti:((List.range 4097).all fun n=>(ZuB (u64.wrap (n:Int))==1)==ZAD n)=true:=by kernel_rfl
theorem ZtD (n:Nat) (h:n≤4096):(ZuB (u64.wrap (n:Int))==1)=ZAD n:=by
 have:=List.all_eq_true.1 Zti n (by simp;omega)
 simpa using this
noncomputable def Zxa (n:Int):Bool:=!(Zjj n != 0) && !(ZuB (u64.wrap n) != 1)
theorem ZvT (n:Int):Zgx n=some (bif Zxa n then .inr () else .inl ()):=by
 have tz:ZaV (u64.wrap n)=some ():=by
  unfold ZaV ZbA
  cases u64.wrap n==0<;>rfl
 unfold Zgx Zxa
 simp only[ZnB,ZAf,Option.bind_some,tz]
 cases (Zjj n != 0)
 ·cases (ZuB (u64.wrap n) != 1)<;>rfl
 ·rfl
theorem Ztl (n:Nat) (h:n≤4096):Zxa (n:Int)=ZAD n:=by
 have h1:(Zjj (n:Int) != 0)=false:=by
  unfold Zjj
  rw[decide_eq_false (show ¬((n:Int)<0) by omega),decide_eq_false (show ¬((1099511627775:Int)<n) by omega)]
  rfl
 rw[← ZtD n h]
 unfold Zxa
 rw[h1]
 unfold bne
 rw[Bool.not_not]
 rfl
def ZAP (b:ZrP):Prop:=b.ins.length<9223372036854775808∧b.outs.length<9223372036854775808
structure Zz0 (d:Zv5):Prop where
 p:d.parts.length<9223372036854775808
 e:d.edges.length<9223372036854775808
 f:d.futures.length<9223372036854775808
 b:d.barriers.length<9223372036854775808
 i:∀b∈d.barriers,ZAP b
theorem Ztf {γ:Type}{l:List γ}{i n:Nat} (h:l.length<n):(l.take i).length<n:=by rw[List.length_take];omega
def Zjm (n:Nat) (x:Int):Bool:=decide (0≤x)&&decide (x<(n:Int))
def Zp9 {γ S:Type} (f:Nat→S→γ→S):Nat→S→List γ→S
 | _,s,[]=>s
 | i,s,x :: l=>Zp9 f (i+1) (f i s x) l
theorem Zwc {γ S T R:Type} (l:List γ) (step:T→Option (T⊕R)) (st:Nat→S→T) (f:Nat→S→γ→S) (fin:S→R) (I:Nat→S→Prop)
  (h1:∀i x s,i<l.length→l[i]? = some x→I i s→step (st i s)=some (.inl (st (i+1) (f i s x)))∧I (i+1) (f i s x))
  (h2:∀s,I l.length s→step (st l.length s)=some (.inr (fin s))) (s:S) (h0:I 0 s) :
  lp step (st 0 s)=some (fin (Zp9 f 0 s l))∧I l.length (Zp9 f 0 s l):=by
 have key:∀(k i:Nat) (s:S),i+k=l.length→I i s→lp step (st i s)=some (fin (Zp9 f i s (l.drop i)))∧I l.length (Zp9 f i s (l.drop i)):=by
  intro k
  induction k with
  | zero=>
   intro i s hi hI
   have:i=l.length:=by omega
   subst this
   rw[List.drop_length,ZaI,h2 s hI]
   exact⟨rfl,hI⟩
  | succ k ih=>
   intro i s hi hI
   have hi':i<l.length:=by omega
   obtain⟨e,hI'⟩:=h1 i l[i] s hi' (List.getElem?_eq_getElem hi') hI
   rw[List.drop_eq_getElem_cons hi',ZaI,e]
   exact ih (i+1) _ (by omega) hI'
 have:=key l.length 0 s (by omega) h0
 rwa [List.drop_zero] at this
def Zgm (w:Int):Bool:=decide (w<0) || decide (1000<w)
def Zm2 (g:Zk) (i:Nat) (e:Zt):Bool:=!(Zjm g.work.length e.src) || (!(Zjm g.work.length e.dst) || ((e.src==e.dst) || (g.edges.take i).any (Zrw e)))
def ZjD (g:Zk):Int:=bif decide (64<(g.work.length:Int)) || decide (256<(g.edges.length:Int)) then 40 else bif g.work.any Zgm then 41 else bif ZkP (Zm2 g) 0 g.edges then 42 else 0
structure ZgV (g:Zk):Prop where
 w:g.work.length<9223372036854775808
 e:g.edges.length<9223372036854775808
theorem ZvM (w:Int):ZbJ w=some (Zgm w):=by
 unfold ZbJ Zgm
 cases decide (w<0)<;>cases decide (1000<w)<;>rfl
theorem Zxo (a:Int) (l:List Int):Zen a l=some (Zjm l.length a):=by
 unfold Zen Zjm
 cases decide (0≤a)<;>cases decide (a<(l.length:Int))<;>rfl
theorem ZsC (g:Zk) (h:ZgV g):lp (Zdb g) 0=some (bif ZkP (Zm2 g) 0 g.edges then .inl () else .inr ()):=by
 have key:=ZjO g.edges (Zdb g) (Zm2 g) (fun _ _=>.inl ()) (.inr ()) (fun i x hi hx=>by
   have e0:decide ((0:Int)≤(i:Int))=true:=decide_eq_true (by omega)
   have e1:Nat.ble i g.edges.length=true:=Nat.ble_eq_true_of_le (by omega)
   simp only[Zdb,Zds hi,ZE hx,Option.bind_some,ZR hi h.e,cond_true,Zxo,Zm2,e0,Int.toNat_natCast,e1,Zvu _ x (Ztf h.e)]
   cases Zjm g.work.length x.src<;>cases Zjm g.work.length x.dst<;>cases (x.src==x.dst)<;>cases (g.edges.take i).any (Zrw x)<;>rfl) (by simp only[Zdb,Zdz];rfl)
 rw[key,Zit]
inductive Way (g:Zk):Int→Int→Prop
 | one {e:Zt}:e∈g.edges→Way g e.src e.dst
 | more {a:Int} {e:Zt}:Way g a e.src→e∈g.edges→Way g a e.dst
theorem Way.trans {g:Zk}{a b c:Int} (h1:Way g a b) (h2:Way g b c):Way g a c:=by
 induction h2 with
 | one he=>exact Way.more h1 he
 | more _ he ih=>exact Way.more (ih h1) he
def Zku (g:Zk):Prop:=∀a,¬Way g a a
structure Zdg (g:Zk):Prop where
 wl:g.work.length≤64
 el:g.edges.length≤256
 w:∀x∈g.work,0≤x∧x≤1000
 src:∀e∈g.edges,0≤e.src∧e.src.toNat<g.work.length
 dst:∀e∈g.edges,0≤e.dst∧e.dst.toNat<g.work.length
theorem Zdg.short {g:Zk} (h:Zdg g):ZgV g:=⟨by have:=h.wl;omega,by have:=h.el;omega⟩
theorem Zqe {n:Nat}{a:Int} (h:Zjm n a=true):0≤a∧a.toNat<n:=by
 unfold Zjm at h
 simp only[Bool.and_eq_true,decide_eq_true_eq] at h
 omega
theorem ZrD {g:Zk} (h:ZjD g=0):Zdg g:=by
 unfold ZjD at h
 cases h1:decide (64<(g.work.length:Int)) with
 | true=>rw[h1] at h;simp at h
 | false=>
 cases h2:decide (256<(g.edges.length:Int)) with
 | true=>rw[h1,h2] at h;simp at h
 | false=>
 cases h3:g.work.any Zgm with
 | true=>rw[h1,h2,h3] at h;simp at h
 | false=>
 cases h4:ZkP (Zm2 g) 0 g.edges with
 | true=>rw[h1,h2,h3,h4] at h;simp at h
 | false=>
 have hE:∀e∈g.edges,∃i,Zm2 g i e=false:=fun e he=>by
  obtain⟨i,hi⟩:=List.getElem?_of_mem he
  refine⟨i,?_⟩
  cases hb:Zm2 g i e with
  | false=>rfl
  | true=>rw[(ZrQ _ _ 0).2 ⟨i,e,hi,by simpa using hb⟩] at h4;cases h4
 refine⟨by have:=of_decide_eq_false h1;omega,by have:=of_decide_eq_false h2;omega,fun x hx=>?_,fun e he=>?_,fun e he=>?_⟩
 ·have:=List.any_eq_false.1 h3 x hx
  unfold Zgm at this
  simp only[Bool.or_eq_true,decide_eq_true_eq,not_or] at this
  omega
 ·obtain⟨i,hi⟩:=hE e he
  unfold Zm2 at hi
  simp only[Bool.or_eq_false_iff,Bool.not_eq_false'] at hi
  exact Zqe hi.1
 ·obtain⟨i,hi⟩:=hE e he
  unfold Zm2 at hi
  simp only[Bool.or_eq_false_iff,Bool.not_eq_false'] at hi
  exact Zqe hi.2.1
theorem Way.src_in {g:Zk} (h:Zdg g) {a b:Int} (w:Way g a b):0≤a∧a.toNat<g.work.length:=by
 induction w with
 | one he=>exact h.src _ he
 | more _ _ ih=>exact ih
theorem Zr5 {g:Zk} (hg:Zku g):∀(n:Nat) (S:List Int),S.length≤n→S≠[]→∃m∈S,∀e∈g.edges,e.dst=m→e.src∉S:=by
 intro n
 induction n with
 | zero=>intro S h1 h2;exact absurd (List.length_eq_zero_iff.1 (by omega)) h2
 | succ n ih=>
  intro S h1 h2
  obtain⟨m,hm⟩:=List.exists_mem_of_ne_nil S h2
  classical
  by_cases hS:(S.filter fun x=>decide (Way g x m))=[]
  ·refine⟨m,hm,fun e he hd hs=>?_⟩
   have:e.src∈S.filter fun x=>decide (Way g x m):=List.mem_filter.2 ⟨hs,decide_eq_true (hd ▸ Way.one he)⟩
   rw[hS] at this
   cases this
  ·have hlt:(S.filter fun x=>decide (Way g x m)).length<S.length:=by
    refine Nat.lt_of_le_of_ne (List.length_filter_le _ _) fun he=>?_
    have:=List.length_filter_eq_length_iff.1 he m hm
    exact hg m (of_decide_eq_true this)
   obtain⟨k,hk,hk2⟩:=ih _ (by omega) hS
   obtain⟨k1,k2⟩:=List.mem_filter.1 hk
   refine⟨k,k1,fun e he hd hs=>hk2 e he hd (List.mem_filter.2 ⟨hs,decide_eq_true ?_⟩)⟩
   exact(hd ▸ Way.one he:Way g e.src k).trans (of_decide_eq_true k2)
def bAt (l:List Bool) (z:Int):Bool:=match l[z.toNat]? with | some b=>b | none=>false
def ZmD (g:Zk) (done:List Bool) (i:Nat):Bool:=!(bAt done (i:Int)) && !(g.edges.any fun e=>(e.dst==(i:Int)) && !(bAt done e.src))
def ZmJ (g:Zk) (done:List Bool):Option Nat:=ZiP (fun i _=>ZmD g done i) (fun i _=>some i) none 0 g.work
def ZlX (g:Zk):Nat→List Int→List Bool→Option (List Int)
 | 0,out,_=>some out
 | k+1,out,done=>(match ZmJ g done with | some i=>ZlX g k (out++[(i:Int)]) (done.set i true) | none=>none)
theorem Zr3 {γ R S:Type} (p:Nat→γ→Bool) (out:Nat→γ→R) (fin:R) (F:R→S):∀(l:List γ) (i:Nat),F (ZiP p out fin i l)=ZiP p (fun i x=>F (out i x)) (F fin) i l
 | [],i=>rfl
 | x :: l,i=>by
  unfold ZiP
  cases p i x with
  | true=>rfl
  | false=>exact Zr3 p out fin F l (i+1)
theorem Zqt {γ:Type} (p:Nat→γ→Bool):∀(l:List γ) (i k:Nat),ZiP p (fun i _=>some i) none i l=some k→i≤k∧k<i+l.length∧∃x,l[k-i]? = some x∧p k x=true
 | [],i,k,h=>by cases h
 | x :: l,i,k,h=>by
  unfold ZiP at h
  cases hp:p i x with
  | true=>
   rw[hp] at h
   cases h
   exact⟨Nat.le_refl _,by simp,x,by simp,hp⟩
  | false=>
   rw[hp] at h
   obtain⟨h1,h2,y,h3,h4⟩:=Zqt p l (i+1) k h
   refine⟨by omega,by simp only[List.length_cons];omega,y,?_,h4⟩
   rw[show k-i=(k-(i+1))+1 by omega]
   exact h3
theorem Zp3 {γ:Type} (p:Nat→γ→Bool):∀(l:List γ) (i:Nat),ZiP p (fun i _=>some i) none i l=none→∀(j:Nat) x,l[j]? = some x→p (i+j) x=false
 | [],i,h,j,x,hx=>by cases hx
 | y :: l,i,h,j,x,hx=>by
  unfold ZiP at h
  cases hp:p i y with
  | true=>rw[hp] at h;cases h
  | false=>
   rw[hp] at h
   cases j with
   | zero=>cases hx;exact hp
   | succ j=>
    have:=Zp3 p l (i+1) h j x hx
    rwa [show i+1+j=i+(j+1) by omega] at this
theorem Zt9 {g:Zk}{done:List Bool} (hd:done.length=g.work.length) {z:Int} (h:0≤z∧z.toNat<g.work.length):ZI done z=some (bAt done z):=by
 have e:=List.getElem?_eq_getElem (show z.toNat<done.length by rw[hd];exact h.2)
 rw[Zrn h.1 e]
 unfold bAt
 rw[e]
theorem ZAg {g:Zk} (h:Zdg g) (out:List Int) (ho:out.length<g.work.length) (done:List Bool) (hd:done.length=g.work.length) :
  lp (ZcV g (out,done)) 0=some (match ZmJ g done with | some i=>.inl (out++[(i:Int)],done.set i true) | none=>.inr ()):=by
 have key:=ZjO g.work (ZcV g (out,done)) (fun i _=>ZmD g done i) (fun i _=>.inl (out++[(i:Int)],done.set i true)) (.inr ()) (fun i x hi hx=>by
   have inner:=ZjO g.edges (Zd1 g (out,done) (i:Int)) (fun _ e=>(e.dst==(i:Int)) && !(bAt done e.src)) (fun _ _=>.inl ()) (.inr ()) (fun k e hk he=>by
     simp only[Zd1,Zds hk,ZE he,Option.bind_some,ZR hk h.short.e,cond_true,Zt9 hd (h.src e (List.mem_of_getElem? he))]
     cases (e.dst==(i:Int))<;>cases bAt done e.src<;>rfl) (by simp only[Zd1,Zdz];rfl)
   rw[Zit,Zry] at inner
   have hl:=h.wl
   simp only[ZcV,Zds hi,Zt9 hd (z:=(i:Int)) ⟨by omega,by simpa using hi⟩,Option.bind_some,ZR hi h.short.w,cond_true,inner,ZeU (show out.length+1≤1073741824 by omega),Int.toNat_natCast,ZmD]
   cases bAt done (i:Int)<;>cases g.edges.any (fun e=>(e.dst==(i:Int)) && !(bAt done e.src))<;>rfl) (by simp only[ZcV,Zdz];rfl)
 rw[key]
 unfold ZmJ
 exact congrArg some (Zr3 (fun i _=>ZmD g done i) (fun i _=>some i) none (fun o:Option Nat=>(match o with | some i=>(.inl (out++[(i:Int)],done.set i true):(List Int×List Bool)⊕Unit) | none=>.inr ())) g.work 0).symm
theorem Zur {g:Zk} (h:Zdg g):∀(k:Nat) (out:List Int) (done:List Bool),out.length+k=g.work.length→done.length=g.work.length →
  ∃r,lp (Zd2 g) (out,done)=some r∧(match ZlX g k out done with | some l=>r = .inr l | none=>∃l,r = .inl l)
 | 0,out,done,h1,h2=>by
  rw[ZaI]
  simp only[Zd2,show out.length=g.work.length by omega,Zdz,cond_false]
  exact⟨_,rfl,rfl⟩
 | k+1,out,done,h1,h2=>by
  rw[ZaI]
  simp only[Zd2,Zds (show out.length<g.work.length by omega),cond_true,ZAg h out (by omega) done h2,Option.bind_some]
  unfold ZlX
  cases ZmJ g done with
  | none=>exact⟨_,rfl,_,rfl⟩
  | some i=>exact Zur h k (out++[(i:Int)]) (done.set i true) (by rw[List.length_append];simp only[List.length_cons,List.length_nil];omega) (by rw[List.length_set];exact h2)
theorem Zuk {g:Zk} (h:Zdg g):ZeG g=some (match ZlX g g.work.length [] (List.replicate g.work.length false) with | some l=>(l,true) | none=>([],false)):=by
 obtain⟨r,e,hr⟩:=Zur h g.work.length [] (List.replicate g.work.length false) (by simp) (by simp)
 have hl:=h.wl
 unfold ZeG
 rw[decide_eq_true (show(0:Int)≤(g.work.length:Int) by omega),decide_eq_true (show(g.work.length:Int)≤lim by show(g.work.length:Int)≤1073741824;omega),beq_self_eq_true]
 simp only[decide_true,Bool.and_true,cond_true,Int.toNat_natCast,e,Option.bind_some]
 cases ho:ZlX g g.work.length [] (List.replicate g.work.length false) with
 | some l=>rw[ho] at hr;simp only at hr;subst hr;rfl
 | none=>rw[ho] at hr;obtain⟨l,rfl⟩:=hr;rfl
structure Zd6 (g:Zk) (out:List Int) (done:List Bool):Prop where
 dl:done.length=g.work.length
 mem:∀i:Nat,bAt done (i:Int)=true↔(i:Int)∈out
 inn:∀z∈out,0≤z∧z.toNat<g.work.length
 nod:out.Nodup
 topo:∀(i:Nat) (n:Int),out[i]? = some n→∀e∈g.edges,e.dst=n→∃j,j<i∧out[j]? = some e.src
theorem ZyR {done:List Bool}{i:Nat} (hi:i<done.length) (z:Int) (hz:0≤z):bAt (done.set i true) z=(decide (z=(i:Int)) || bAt done z):=by
 unfold bAt
 rw[List.getElem?_set]
 by_cases h:i=z.toNat
 ·subst h
  rw[if_pos rfl,if_pos hi,decide_eq_true (show z=((z.toNat:Nat):Int) by omega)];rfl
 ·rw[if_neg h,decide_eq_false (show ¬z=(i:Int) by omega)];rfl
theorem Zd6.start (g:Zk):Zd6 g [] (List.replicate g.work.length false):=by
 refine⟨by simp,fun i=>?_,by simp,by simp,by simp⟩
 unfold bAt
 rw[List.getElem?_replicate]
 by_cases h:((i:Int)).toNat<g.work.length
 ·rw[if_pos h];simp
 ·rw[if_neg h];simp
theorem Zd6.next {g:Zk} (h:Zdg g) {out:List Int}{done:List Bool} (o:Zd6 g out done) {i:Nat} (hn:ZmJ g done=some i):Zd6 g (out++[(i:Int)]) (done.set i true):=by
 obtain⟨_,hi,x,_,hp⟩:=Zqt _ _ _ _ hn
 rw[Nat.zero_add] at hi
 unfold ZmD at hp
 simp only[Bool.and_eq_true,Bool.not_eq_true',List.any_eq_false,Bool.not_eq_true] at hp
 have hid:i<done.length:=by rw[o.dl];exact hi
 have hnot:(i:Int)∉out:=fun hm=>by have:=(o.mem i).2 hm;rw[hp.1] at this;cases this
 refine⟨by rw[List.length_set];exact o.dl,fun j=>?_,fun z hz=>?_,?_,fun k n hk e he hd=>?_⟩
 ·rw[ZyR hid (j:Int) (by omega),Bool.or_eq_true,decide_eq_true_eq,o.mem,List.mem_append,List.mem_singleton]
  exact Or.comm
 ·rcases List.mem_append.1 hz with hz | hz
  ·exact o.inn z hz
  ·rw[List.mem_singleton] at hz;subst hz;exact⟨by omega,by simpa using hi⟩
 ·rw[List.nodup_append]
  refine⟨o.nod,by simp,fun a ha b hb=>?_⟩
  rw[List.mem_singleton] at hb
  subst hb
  exact fun hab=>hnot (hab ▸ ha)
 ·rcases Nat.lt_or_ge k out.length with hk2 | hk2
  ·rw[List.getElem?_append_left hk2] at hk
   obtain⟨j,h1,h2⟩:=o.topo k n hk e he hd
   exact⟨j,h1,by rw[List.getElem?_append_left (by omega)];exact h2⟩
  ·rw[List.getElem?_append_right hk2] at hk
   have hk0:k-out.length=0:=by
    rcases Nat.eq_zero_or_pos (k-out.length) with h0 | h0
    ·exact h0
    ·rw[List.getElem?_eq_none (by simp only[List.length_cons,List.length_nil];omega)] at hk;cases hk
   rw[hk0] at hk
   simp only[List.getElem?_cons_zero,Option.some.injEq] at hk
   subst hk
   have hs:=hp.2 e he
   rw[hd] at hs
   have hs:bAt done e.src=true:=by simpa using hs
   have hsr:=h.src e he
   have:=(o.mem e.src.toNat).1 (by rw[show((e.src.toNat:Nat):Int)=e.src by omega];exact hs)
   rw[show((e.src.toNat:Nat):Int)=e.src by omega] at this
   obtain⟨j,hj⟩:=List.getElem?_of_mem this
   have hjl:=(List.getElem?_eq_some_iff.1 hj).1
   exact⟨j,by omega,by rw[List.getElem?_append_left hjl];exact hj⟩
theorem Zd6.way {g:Zk}{out:List Int}{done:List Bool} (o:Zd6 g out done) {a b:Int} (w:Way g a b):∀j:Nat,out[j]? = some b→∃i,i<j∧out[i]? = some a:=by
 induction w with
 | one he=>intro j hj;exact o.topo j _ hj _ he rfl
 | more _ he ih=>
  intro j hj
  obtain⟨i,h1,h2⟩:=o.topo j _ hj _ he rfl
  obtain⟨k,h3,h4⟩:=ih i h2
  exact⟨k,by omega,h4⟩
theorem Zqq {l:List Int} (h:l.Nodup) {i j:Nat}{a:Int} (h1:l[i]? = some a) (h2:l[j]? = some a):i=j:=by
 obtain⟨a1,a2⟩:=List.getElem?_eq_some_iff.1 h1
 obtain⟨b1,b2⟩:=List.getElem?_eq_some_iff.1 h2
 exact(List.getElem_inj h).1 (a2.trans b2.symm)
def ZxA (n:Nat) (done:List Bool):List Int:=((List.range n).filter fun i:Nat=>!bAt done (i:Int)).map fun i:Nat=>(i:Int)
theorem ZoH {n:Nat}{done:List Bool}{i:Nat} (h1:i<n) (h2:bAt done (i:Int)=false):(i:Int)∈ZxA n done:=
 List.mem_map.2 ⟨i,List.mem_filter.2 ⟨List.mem_range.2 h1,by rw[h2];rfl⟩,rfl⟩
theorem Zvx {g:Zk} (h:Zdg g) (hg:Zku g) {out:List Int}{done:List Bool} (o:Zd6 g out done) (i0:Nat) (hi0:i0<g.work.length) (hb:bAt done (i0:Int)=false):∃i,ZmJ g done=some i:=by
 cases hn:ZmJ g done with
 | some i=>exact⟨i,rfl⟩
 | none=>
  exfalso
  have hall:=Zp3 _ _ _ hn
  obtain⟨m,hm,hm2⟩:=Zr5 hg _ (ZxA g.work.length done) (Nat.le_refl _) (by
   intro he
   have:=ZoH hi0 hb
   rw[he] at this;cases this)
  obtain⟨k,hk,rfl⟩:=List.mem_map.1 hm
  obtain⟨hk1,hk2⟩:=List.mem_filter.1 hk
  rw[List.mem_range] at hk1
  have hr:=hall k g.work[k] (List.getElem?_eq_getElem hk1)
  rw[Nat.zero_add] at hr
  unfold ZmD at hr
  rw[hk2,Bool.true_and,Bool.not_eq_false',List.any_eq_true] at hr
  obtain⟨e,he,he2⟩:=hr
  simp only[Bool.and_eq_true,beq_iff_eq] at he2
  have hsr:=h.src e he
  refine hm2 e he he2.1 ?_
  have es:((e.src.toNat:Nat):Int)=e.src:=by omega
  rw[← es]
  exact ZoH hsr.2 (by rw[es];simpa using he2.2)
theorem ZxQ {n:Nat}{out:List Int} (h1:out.Nodup) (h2:∀z∈out,0≤z∧z.toNat<n):(out.length≤n)∧(out.length=n→∀i:Nat,i<n→(i:Int)∈out):=by
 induction n generalizing out with
 | zero=>
  refine⟨?_,fun _ i hi=>absurd hi (by omega)⟩
  cases out with
  | nil=>simp
  | cons z l=>have:=h2 z (by simp);omega
 | succ n ih=>
  by_cases hm:(n:Int)∈out
  ·have e1:(out.erase (n:Int)).length=out.length-1:=List.length_erase_of_mem hm
   have pos:0<out.length:=List.length_pos_of_mem hm
   obtain⟨a,b⟩:=ih (out:=out.erase (n:Int)) (h1.erase _) (fun z hz=>by
    have hz2:=(List.Nodup.mem_erase_iff h1).1 hz
    have:=h2 z hz2.2
    have:=hz2.1
    omega)
   refine⟨by omega,fun hl i hi=>?_⟩
   by_cases hin:i=n
   ·subst hin;exact hm
   ·exact List.mem_of_mem_erase (b (by omega) i (by omega))
  ·obtain⟨a,b⟩:=ih (out:=out) h1 (fun z hz=>by
    have:=h2 z hz
    have:z≠(n:Int):=fun he=>hm (he ▸ hz)
    omega)
   exact⟨by omega,fun hl=>by omega⟩
theorem ZxO:∀(n:Nat) (out:List Int),(∀i:Nat,i<n→(i:Int)∈out)→n≤out.length
 | 0,out,h=>by omega
 | n+1,out,h=>by
  have hm:=h n (by omega)
  have e1:(out.erase (n:Int)).length=out.length-1:=List.length_erase_of_mem hm
  have pos:0<out.length:=List.length_pos_of_mem hm
  have:=ZxO n (out.erase (n:Int)) (fun i hi=>(List.mem_erase_of_ne (by omega)).2 (h i (by omega)))
  omega
theorem Zkn {g:Zk} (h:Zdg g):∀(k:Nat) (out:List Int) (done:List Bool),Zd6 g out done→out.length+k=g.work.length→(∀l,ZlX g k out done=some l→∃done',Zd6 g l done'∧l.length=g.work.length)∧(Zku g→∃l,ZlX g k out done=some l)
 | 0,out,done,o,hl=>⟨fun l h=>by cases h;exact⟨done,o,by omega⟩,fun _=>⟨out,rfl⟩⟩
 | k+1,out,done,o,hl=>by
  unfold ZlX
  cases hn:ZmJ g done with
  | none=>
   refine⟨fun l h=>(by cases h),fun hg=>?_⟩
   exfalso
   have hex:∃i0,i0<g.work.length∧(i0:Int)∉out:=by
    apply Classical.byContradiction
    intro hc
    have hc2:∀i0,i0<g.work.length→(i0:Int)∈out:=fun i0 hi=>Classical.byContradiction fun hx=>hc ⟨i0,hi,hx⟩
    have sub:=ZxO g.work.length out hc2
    omega
   obtain⟨i0,h1,h2⟩:=hex
   obtain⟨i,hi⟩:=Zvx h hg o i0 h1 (by
    cases hb:bAt done (i0:Int) with
    | false=>rfl
    | true=>exact absurd ((o.mem i0).1 hb) h2)
   rw[hn] at hi
   cases hi
  | some i=>
   exact Zkn h k _ _ (o.next h hn) (by rw[List.length_append];simp only[List.length_cons,List.length_nil];omega)
theorem Zyi {g:Zk} (h:Zdg g) {l:List Int}{done:List Bool} (o:Zd6 g l done) (hl:l.length=g.work.length):Zku g:=by
 intro a w
 have ha:=w.src_in h
 have hm:=(ZxQ o.nod o.inn).2 hl a.toNat ha.2
 rw[show((a.toNat:Nat):Int)=a by omega] at hm
 obtain⟨j,hj⟩:=List.getElem?_of_mem hm
 obtain⟨i,h1,h2⟩:=o.way w j hj
 have:=Zqq o.nod h2 hj
 omega
structure ZEd (g:Zk) (l:List Int):Prop where
 len:l.length=g.work.length
 all:∀i:Nat,i<g.work.length→(i:Int)∈l
 inn:∀z∈l,0≤z∧z.toNat<g.work.length
 nod:l.Nodup
 topo:∀(i:Nat) (n:Int),l[i]? = some n→∀e∈g.edges,e.dst=n→∃j,j<i∧l[j]? = some e.src
theorem ZuN {g:Zk} (h:Zdg g) (hg:Zku g):∃l,ZeG g=some (l,true)∧ZEd g l:=by
 obtain⟨k1,k2⟩:=Zkn h g.work.length [] _ (Zd6.start g) (by simp)
 obtain⟨l,hl⟩:=k2 hg
 obtain⟨done,o,hn⟩:=k1 l hl
 exact⟨l,by rw[Zuk h,hl],hn,(ZxQ o.nod o.inn).2 hn,o.inn,o.nod,o.topo⟩
theorem Zx7 {g:Zk} (h:Zdg g) (hg:¬Zku g):ZeG g=some ([],false):=by
 rw[Zuk h]
 cases ho:ZlX g g.work.length [] (List.replicate g.work.length false) with
 | none=>rfl
 | some l=>
  obtain⟨done,o,hn⟩:=(Zkn h g.work.length [] _ (Zd6.start g) (by simp)).1 l ho
  exact absurd (Zyi h o hn) hg
noncomputable def Zwb (g:Zk):Bool:=@decide (Zku g) (Classical.propDecidable _)
theorem ZyA {g:Zk} (h:Zku g):Zwb g=true:=@decide_eq_true _ (Classical.propDecidable _) h
theorem ZtV {g:Zk} (h:¬Zku g):Zwb g=false:=@decide_eq_false _ (Classical.propDecidable _) h
noncomputable def ZT (g:Zk):Int:=bif ZjD g==0 then (bif Zwb g then 0 else 43) else ZjD g
theorem Z1 {g:Zk} (h:ZT g=0):Zdg g∧Zku g:=by
 unfold ZT at h
 by_cases h0:ZjD g=0
 ·rw[h0] at h
  refine⟨ZrD h0,Classical.byContradiction fun hn=>?_⟩
  rw[ZtV hn] at h
  simp at h
 ·rw[beq_false_of_ne h0] at h
  exact absurd h h0
theorem ZdU (g:Zk) (h:ZgV g):ZbI g=some (ZT g):=by
 have hw:=Zeq g.work (fun z0=>ZbJ z0) Zgm (fun x _=>ZvM x) h.w
 unfold ZbI ZT
 rw[hw,ZsC g h]
 by_cases h0:ZjD g=0
 ·have hG:=ZrD h0
  rw[h0]
  unfold ZjD at h0
  by_cases hg:Zku g
  ·obtain⟨l,e,_⟩:=ZuN hG hg
   rw[e,ZyA hg]
   revert h0
   cases decide (64<(g.work.length:Int))<;>cases decide (256<(g.edges.length:Int))<;>cases g.work.any Zgm<;>cases ZkP (Zm2 g) 0 g.edges<;>simp
  ·rw[Zx7 hG hg,ZtV hg]
   revert h0
   cases decide (64<(g.work.length:Int))<;>cases decide (256<(g.edges.length:Int))<;>cases g.work.any Zgm<;>cases ZkP (Zm2 g) 0 g.edges<;>simp
 ·rw[beq_false_of_ne h0]
  unfold ZjD at h0 ⊢
  revert h0
  cases decide (64<(g.work.length:Int))<;>cases decide (256<(g.edges.length:Int))<;>cases g.work.any Zgm<;>cases ZkP (Zm2 g) 0 g.edges<;>simp
theorem Zek {g:Zk} (hG:Zdg g):ZeV g.edges g.work.length:=fun e he=>⟨hG.src e he,hG.dst e he⟩
theorem Zvp {g:Zk} (hG:Zdg g) (hA:Zku g) {left:List Int} (hl:left.length=g.work.length) (hr:∀x∈left,0≤x) (h:∃n,isN left n∧0<lf left n):∃n,isN left n∧0<lf left n∧Zji g.edges left n:=by
 have pos:∀n,0≤lf left n:=fun n=>by
  unfold lf
  cases hx:left[n.toNat]? with
  | none=>simp
  | some x=>exact hr x (List.mem_of_getElem? hx)
 let S:List Int:=((List.range left.length).map fun i:Nat=>(i:Int)).filter fun n=>decide (0<lf left n)
 have mem:∀n,n∈S↔isN left n∧0<lf left n:=fun n=>by
  simp only[S,List.mem_filter,List.mem_map,List.mem_range,decide_eq_true_eq]
  constructor
  ·rintro ⟨⟨i,hi,rfl⟩,h2⟩
   exact⟨⟨by omega,by simpa using hi⟩,h2⟩
  ·rintro ⟨h1,h2⟩
   exact⟨⟨n.toNat,h1.2,Int.toNat_of_nonneg h1.1⟩,h2⟩
 obtain⟨n0,h0⟩:=h
 obtain⟨n,hn,hn2⟩:=Zr5 hA S.length S (Nat.le_refl _) (fun he=>by
  have:=(mem n0).2 h0
  rw[he] at this
  cases this)
 obtain⟨h1,h2⟩:=(mem n).1 hn
 refine⟨n,h1,h2,fun e he hd=>?_⟩
 have hs:=hG.src e he
 have:=hn2 e he hd
 rw[mem] at this
 have h3:=pos e.src
 apply Classical.byContradiction
 intro hc
 exact this ⟨⟨hs.1,by rw[hl];exact hs.2⟩,by omega⟩
theorem Zn6 {row:List Int}{n:Int} (h:n∈row) (hn:n ≠ -1):0<busy row:=by
 unfold busy
 exact List.countP_pos_iff.2 ⟨n,h,by simpa using hn⟩
theorem ZmE {g:Zk} (hG:Zdg g) (hA:Zku g) {left on row:List Int} (hl:left.length=g.work.length) (h:∃n,isN left n∧0<lf left n) (c:ZeD g.edges left on) (f:ZdQ g.edges left on row) (hm:1≤on.length):0<busy row:=by
 obtain⟨n,h1,h2,h3⟩:=Zvp hG hA hl (fun x hx=>(c.rng x hx).1) h
 have n0:n ≠ -1:=by have:=h1.1;omega
 by_cases ho:n∈on
 ·obtain⟨i,hi⟩:=List.getElem?_of_mem ho
  exact Zn6 (List.mem_of_getElem? (f.keep i n hi n0)) n0
 ·by_cases hr:n∈row
  ·exact Zn6 hr n0
  ·by_cases hi : -1∈row
   ·exact absurd ⟨h1,h2,hr,h3⟩ (f.all hi n)
   ·have hlen:0<row.length:=by rw[f.len];omega
    refine Zn6 (List.getElem_mem hlen) fun he=>hi ?_
    rw[← he]
    exact List.getElem_mem hlen
theorem ZwL {g:Zk} (hG:Zdg g) (hA:Zku g) {need:List Int} (hn:need.length=g.work.length) (h:∀x∈need,1≤x∧x≤1000) {t:List (List Int)}{left on:List Int} (s:Sched g.edges need 1 t left on):ZdN t=t.length:=by
 have hE:ZeV g.edges need.length:=by rw[hn];exact Zek hG
 induction s with
 | nil=>rfl
 | @snoc t left on row s hs f ih=>
  have c:=s.crew h hE
  have hl:=s.len
  have b:=ZmE hG hA (by rw[hl.1,hn]) hs c f (by rw[hl.2.1];exact Nat.le_refl _)
  have hr:row.length=1:=by rw[f.len,hl.2.1]
  have:busy row≤row.length:=List.countP_le_length
  have e:ZdN (t++[row])=ZdN t+busy row:=by
   unfold ZdN
   rw[List.map_append,List.sum_append]
   simp
  rw[e,ih,List.length_append,List.length_singleton]
  omega
theorem Sched.short {g:Zk} (hG:Zdg g) (hA:Zku g) {need:List Int} (hn:need.length=g.work.length) (h:∀x∈need,1≤x∧x≤1000) {m:Nat} (hm:1≤m) {t:List (List Int)}{left on:List Int} (s:Sched g.edges need m t left on):t.length≤ZdN t:=by
 have hE:ZeV g.edges need.length:=by rw[hn];exact Zek hG
 induction s with
 | nil=>exact Nat.zero_le _
 | @snoc t left on row s hs f ih=>
  have c:=s.crew h hE
  have hl:=s.len
  have b:=ZmE hG hA (by rw[hl.1,hn]) hs c f (by rw[hl.2.1];exact hm)
  have e:ZdN (t++[row])=ZdN t+busy row:=by
   unfold ZdN
   rw[List.map_append,List.sum_append]
   simp
  rw[e,List.length_append,List.length_singleton]
  omega
theorem Zx4 {l:List Int} (h:∀x∈l,x=0):l.sum=0:=by
 induction l with
 | nil=>rfl
 | cons x l ih=>
  rw[List.sum_cons,h x (by simp),ih fun y hy=>h y (by simp[hy])]
  rfl
theorem ZmP (l:List Zt) (f:Zt→Option Bool) (p:Zt→Bool) (hf:∀x∈l,f x=some (p x)) (hl:l.length<9223372036854775808):ZQ l f=some (l.any p):=by
 unfold ZQ Zam
 refine Zh3 l p _ (fun i x hi hx=>?_) ?_
 ·simp only[ZZ,Zds hi,ZE hx,Option.bind_some,hf x (List.mem_of_getElem? hx),ZR hi hl,cond_true]
  cases p x<;>rfl
 ·simp only[ZZ,Zdz];rfl
theorem Zlw (l:List Int) (n:Int):(l.any fun x=>n==x)=decide (n∈l):=by
 rw[Bool.eq_iff_iff,List.any_eq_true,decide_eq_true_eq]
 constructor
 ·rintro ⟨x,hx,h⟩
  have:n=x:=by simpa using h
  rw[this];exact hx
 ·intro h
  exact⟨n,h,by simp⟩
theorem ZsM {γ R:Type} (l:List γ) (step:Int→Option (Int⊕R)) (fin:R) (h1:∀i x,i<l.length→l[i]? = some x→step (i:Int)=some (.inl ((i+1:Nat):Int))) (h2:step (l.length:Int)=some (.inr fin)):lp step 0=some fin:=by
 rw[ZjO l step (fun _ _=>false) (fun _ _=>fin) fin h1 h2,Zit]
 cases ZkP (fun _ _=>false) 0 l<;>rfl
theorem ZqZ {n:Nat} (step:Int×List Int→Option ((Int×List Int)⊕List Int)) (p:Nat→Bool)
  (h1:∀(i:Nat) (out:List Int),i<n→out.length≤i→step ((i:Int),out)=some (.inl (((i+1:Nat):Int),bif p i then out++[(i:Int)] else out)))
  (h2:∀out,step ((n:Int),out)=some (.inr out)):lp step (0,[])=some (((List.range n).filter p).map fun i:Nat=>(i:Int)):=by
 have key:∀(k i:Nat) (out:List Int),i+k=n→out.length≤i→lp step ((i:Int),out)=some (out++((List.range' i k).filter p).map fun i:Nat=>(i:Int)):=by
  intro k
  induction k with
  | zero=>
   intro i out hi _
   have:i=n:=by omega
   subst this
   rw[ZaI,h2]
   simp
  | succ k ih=>
   intro i out hi ho
   rw[ZaI,h1 i out (by omega) ho]
   dsimp only
   rw[List.range'_succ]
   cases hp:p i with
   | true=>
    rw[cond_true,ih (i+1) _ (by omega) (by rw[List.length_append];simp;exact ho),List.filter_cons_of_pos hp,List.map_cons,List.append_assoc]
    rfl
   | false=>
    rw[cond_false,ih (i+1) _ (by omega) (by omega),List.filter_cons_of_neg (by rw[hp];decide)]
 have:=key n 0 [] (by omega) (by simp)
 rw[List.range_eq_range']
 simpa using this
theorem ZgP {n:Nat}{p:Nat→Bool}{z:Int}:(z∈((List.range n).filter p).map fun i:Nat=>(i:Int))↔0≤z∧z.toNat<n∧p z.toNat=true:=by
 rw[List.mem_map]
 constructor
 ·rintro ⟨i,hi,rfl⟩
  obtain⟨h1,h2⟩:=List.mem_filter.1 hi
  rw[List.mem_range] at h1
  exact⟨by omega,by simpa using h1,by simpa using h2⟩
 ·rintro ⟨h0,h1,h2⟩
  exact⟨z.toNat,List.mem_filter.2 ⟨List.mem_range.2 h1,h2⟩,Int.toNat_of_nonneg h0⟩
theorem Zgf {left:List Int}{n:Int} (h:isN left n):ZI left n=some (lf left n):=Zrn h.1 (Zhz h.1 h.2)
theorem Zop {c:ZK}{n:Int} (h:isN c.left n):Zdf c n=some (lf c.left n==0):=by
 unfold Zdf
 rw[Zgf h,Option.bind_some]
 cases lf c.left n==0<;>rfl
def Zi3 (E:List Zt) (left:List Int) (n:Int):Bool:=!(E.any fun e=>(e.dst==n) && !(lf left e.src==0))
theorem Zc3 {E:List Zt}{left:List Int}{n:Int}:Zi3 E left n=true↔Zji E left n:=by
 unfold Zi3 Zji
 rw[Bool.not_eq_true',List.any_eq_false]
 constructor
 ·intro h e he hd
  have:=h e he
  rw[hd,beq_self_eq_true,Bool.true_and,Bool.not_eq_true',Bool.not_eq_false] at this
  simpa using this
 ·intro h e he hh
  simp only[Bool.and_eq_true,beq_iff_eq,Bool.not_eq_true',beq_eq_false_iff_ne] at hh
  exact hh.2 (h e he hh.1)
theorem Ztg {g:Zk} (hG:Zdg g) {c:ZK} (hl:c.left.length=g.work.length) (n:Int):ZeL g c n=some (Zi3 g.edges c.left n):=by
 unfold ZeL
 rw[ZmP _ _ (fun e=>(e.dst==n) && !(lf c.left e.src==0)) (fun e he=>by
  have hs:=hG.src e he
  unfold ZdE
  rw[show(ZK.mk c.on c.left)=c from rfl,Zop (c:=c) (n:=e.src) ⟨hs.1,by rw[hl];exact hs.2⟩]
  cases e.dst==n<;>cases lf c.left e.src==0<;>rfl) hG.short.e]
 unfold Zi3
 cases (g.edges.any fun e=>(e.dst==n) && !(lf c.left e.src==0))<;>rfl
structure Zcf (g:Zk) (left on:List Int):Prop where
 ll:left.length=g.work.length
 o1:1≤on.length
 o8:on.length≤8
 ok:ZeD g.edges left on
theorem Zxi (x:Int):ZbP x=some (decide (x<0) || decide (1000<x)):=by
 unfold ZbP
 cases decide (x<0)<;>cases decide (1000<x)<;>rfl
theorem Zyw {g:Zk} (hG:Zdg g) {left on:List Int} (c:Zcf g left on):Zgq g (ZK.mk on left)=some true:=by
 have o1:=c.o1
 have o8:=c.o8
 have hw:=hG.wl
 have ll:=c.ll
 unfold Zgq
 dsimp only
 rw[decide_eq_false (by omega),cond_false,decide_eq_false (by omega),cond_false,show((left.length:Int) != (g.work.length:Int))=false by rw[ll];simp,cond_false,
  Zeq left _ (fun x=>decide (x<0) || decide (1000<x)) (fun x _=>Zxi x) (by omega),Option.bind_some]
 have h0:(left.any fun x=>decide (x<0) || decide (1000<x))=false:=List.any_eq_false.2 fun x hx=>by
  have:=c.ok.rng x hx
  rw[decide_eq_false (by omega),decide_eq_false (by omega)]
  decide
 rw[h0,cond_false,ZsM on (Zdx g (ZK.mk on left)) (.inr ()) (fun i n hi hn=>?_) (by simp only[Zdx,Zdz];rfl),Option.bind_some]
 ·dsimp only
  rw[ZsM left (ZdA g (ZK.mk on left)) (.inr ()) (fun i x hi hx=>?_) (by simp only[ZdA,Zdz];rfl)]
  ·rfl
  ·have hin:isN left (i:Int):=⟨by omega,by simpa using hi⟩
   simp only[ZdA,Zds hi,cond_true,Zop (c:=ZK.mk on left) hin,Option.bind_some,Ztg hG (c:=ZK.mk on left) c.ll,ZR hi (show left.length<9223372036854775808 by omega)]
   cases hz:lf left (i:Int)==0 with
   | false=>rfl
   | true=>
    have:=Zc3.2 (c.ok.over _ hin (by simpa using hz))
    rw[this];rfl
 ·simp only[Zdx,Zds hi,cond_true,ZE hn,Option.bind_some,ZR hi (show on.length<9223372036854775808 by omega)]
  cases hz:n == -1 with
  | true=>rfl
  | false=>
   have hne:n ≠ -1:=by simpa using hz
   rcases c.ok.run n (List.mem_of_getElem? hn) with h | ⟨h1,h2,h3⟩
   ·exact absurd h hne
   ·have:=h1.1
    have:=h1.2
    have hm:(List.take i on).any (fun x=>n==x)=false:=List.any_eq_false.2 fun x hx hq=>by
     have:n=x:=by simpa using hq
     subst this
     obtain⟨j,hj⟩:=List.getElem?_of_mem hx
     have hjl:=(List.getElem?_eq_some_iff.1 hj).1
     rw[List.length_take] at hjl
     rw[List.getElem?_take,if_pos (by omega)] at hj
     have:=c.ok.one j i n hj hn hne
     omega
    simp only[cond_false,decide_eq_false (show ¬n<0 by omega),decide_eq_false (show ¬(left.length:Int)≤n by omega),Zop (c:=ZK.mk on left) h1,Option.bind_some,show(lf left n==0)=false from beq_eq_false_iff_ne.2 (by omega),
     decide_eq_true (show(0:Int)≤(i:Int) by omega),Int.toNat_natCast,Nat.ble_eq_true_of_le (show i≤on.length by omega),cond_true,ZgX (List.take i on) n (by rw[List.length_take];omega),hm,Ztg hG (c:=ZK.mk on left) c.ll,Zc3.2 h3]
theorem ZfU {g:Zk} (h:ZT g=0) {left on:List Int} (c:Zcf g left on):Zdr g (ZK.mk on left)=some 0:=by
 obtain⟨hG,hA⟩:=Z1 h
 unfold Zdr
 rw[ZdU g hG.short,h,Option.bind_some]
 simp only[beq_self_eq_true,cond_true,Zyw hG c,Option.bind_some]
def Zbj (E:List Zt) (left on:List Int):List Int:=((List.range left.length).filter fun i:Nat=>!(lf left (i:Int)==0)&&(!(decide ((i:Int)∈on))&&Zi3 E left (i:Int))).map fun i:Nat=>(i:Int)
theorem Znp {g:Zk} (h:ZT g=0) {left on:List Int} (c:Zcf g left on):ZcA g (ZK.mk on left)=some (Zbj g.edges left on):=by
 obtain⟨hG,hA⟩:=Z1 h
 have hw:=hG.wl
 have ll:=c.ll
 have o8:=c.o8
 unfold ZcA
 rw[ZfU h c,Option.bind_some]
 unfold ZeW
 rw[ZqZ (n:=left.length) (Zdt g (ZK.mk on left)) (fun i:Nat=>!(lf left (i:Int)==0)&&(!(decide ((i:Int)∈on))&&Zi3 g.edges left (i:Int))) (fun i out hi ho=>?_) (fun out=>by simp only[Zdt,Zdz];rfl)]
 ·rfl
 ·have hin:isN left (i:Int):=⟨by omega,by simpa using hi⟩
  simp only[Zdt,Zds hi,cond_true,Zop (c:=ZK.mk on left) hin,Option.bind_some,ZgX on (i:Int) (by omega),Zlw,Ztg hG (c:=ZK.mk on left) c.ll,ZR hi (show left.length<9223372036854775808 by omega),ZeU (show out.length+1≤1073741824 by omega)]
  cases lf left (i:Int)==0<;>cases decide ((i:Int)∈on)<;>cases Zi3 g.edges left (i:Int)<;>rfl
theorem ZkI {E:List Zt}{left on:List Int} (hr:∀x∈left,0≤x) {n:Int}:n∈Zbj E left on↔Rdy E left on n:=by
 unfold Zbj Rdy isN
 rw[ZgP]
 simp only[Bool.and_eq_true,Bool.not_eq_true',beq_eq_false_iff_ne,decide_eq_false_iff_not]
 constructor
 ·rintro ⟨h0,h1,h2,h3,h4⟩
  rw[Int.toNat_of_nonneg h0] at h2 h3 h4
  refine⟨⟨h0,h1⟩,?_,h3,Zc3.1 h4⟩
  have:0≤lf left n:=by
   rw[show lf left n=lf left n from rfl]
   exact hr _ (List.mem_of_getElem? (Zhz h0 h1))
  omega
 ·rintro ⟨⟨h0,h1⟩,h2,h3,h4⟩
  refine⟨h0,h1,?_⟩
  rw[Int.toNat_of_nonneg h0]
  exact⟨by omega,h3,Zc3.2 h4⟩
theorem ZlG (E:List Zt) (left on:List Int):(Zbj E left on).Nodup:=by
 unfold Zbj
 exact List.Pairwise.map _ (fun a b (h:a≠b)=>by omega) (List.Pairwise.filter _ List.nodup_range)
end Go.Proofs.YtgcfmiajkbbmeaaGreat
