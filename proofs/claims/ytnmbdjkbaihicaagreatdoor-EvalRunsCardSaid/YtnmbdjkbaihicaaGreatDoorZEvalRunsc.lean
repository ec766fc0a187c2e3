/- EvalRuns: part 3 of 7 of the proof. -/
import Derived.Test.YtnmbdjkbaihicaaGreatDoorZEvalRunsb
import Derived.RangeFuncNested
import Derived.RangeFuncBox
import Derived.RangeFuncLeaves
import Derived.Shelf.Abstract
import Derived.WalkKit
import Derived.OwnWalkIn
import Derived.TacticsInMore
import Derived.LoopNIn
import Derived.LoopIn
import Derived.Scope
import Derived.Test.YtnmbdjkbaihicaaGreatDoorProg
import Derived.KernelRfl
import Derived.ChangeArms
import Derived.Deep.Slices
import Derived.ChangeOld
import Derived.WideShapes
import Derived.FnData
import Derived.MakeChecks
import Derived.LaidMore
import Derived.OpenShut
set_option maxRecDepth 100000
set_option maxHeartbeats 40000000
namespace Go.Proofs.YtnmbdjkbaihicaaGreatDoorE
open Go
set_option linter.unusedVariables false
set_option linter.unusedSimpArgs false
theorem ZtP:∀(n:Nat) (H:Zp) (b i:Nat) (blk:Blk),(ZAt H b n)[i]? = some blk→blk ≠ .dead→H[i]? = some blk∧¬(b≤i∧i<b+n)
  | 0,H,b,i,blk,h,_=>⟨h,by omega⟩
  | n+1,H,b,i,blk,h,hd=>by
    obtain⟨h1,h2⟩:=ZtP n _ _ i blk h hd
    rw[Zb2,List.getElem?_set] at h1
    by_cases hbi:b=i
    · rw[if_pos hbi] at h1
      split at h1
      · cases h1;exact absurd rfl hd
      · cases h1
    · rw[if_neg hbi] at h1
      exact⟨h1,by omega⟩
theorem Zqy (pos:List (Nat×Nat)):∀(mask:List Nat) (H:Zp) (i:Nat) (blk:Blk),(Zhm H pos mask)[i]? = some blk→blk ≠ .dead→H[i]? = some blk∧∀m∈mask,∀b n,pos[m]? = some (b,n)→¬(b≤i∧i<b+n)
  | [],H,i,blk,h,_=>⟨h,by simp⟩
  | m :: mask,H,i,blk,h,hd=>by
    simp only[Zhm] at h
    rw[Z4] at h
    cases hp:pos[m]? with
    | none=>
      rw[hp] at h
      obtain⟨h1,h2⟩:=Zqy pos mask H i blk h hd
      refine⟨h1,fun k hk b n hb=>?_⟩
      rcases List.mem_cons.1 hk with rfl | hk
      · rw[hp] at hb;cases hb
      · exact h2 k hk b n hb
    | some q=>
      obtain⟨b0,n0⟩:=q
      rw[hp] at h
      obtain⟨h1,h2⟩:=Zqy pos mask _ i blk h hd
      obtain⟨h3,h4⟩:=ZtP n0 H b0 i blk h1 hd
      refine⟨h3,fun k hk b n hb=>?_⟩
      rcases List.mem_cons.1 hk with rfl | hk
      · rw[hp] at hb;cases hb;exact h4
      · exact h2 k hk b n hb
theorem Blk.like_symm {a b:Blk} (h:a.like b):b.like a:=by
  cases a<;>cases b<;>simp_all [Blk.like]
theorem Zu7 {Γ:Ctx}{cf:Zbs}{e:Env}{nid:Nat}{H:Zp}{op:O}{v:V}{up:List (Nat×Blk)}{nw:List Blk} (hc:Zzh op=true∨Zyt op=true) (h:opE Γ cf e nid H op=some (v,up,nw)):nw=[]:=by
  have key:∀(x:Option V),(match x with | some v=>Zdt v | none=>none)=some (v,up,nw)→nw=[]:=fun x h=>by
    cases x with
    | none=>cases h
    | some y=>exact(Zax h).2.2
  have keyD:∀(x:Option D),(match x with | some r=>Zdt (.d r) | none=>none)=some (v,up,nw)→nw=[]:=fun x h=>by
    cases x with
    | none=>cases h
    | some y=>exact(Zax h).2.2
  cases op<;>first | (rcases hc with hc | hc<;>cases hc;done) | skip
  case mov x=>exact(Zax h).2.2
  case mkfn f caps=>exact(Zax h).2.2
  case build z ps=>simp only[opE] at h;split at h<;>first | exact(Zax h).2.2 | cases h
  case pick c a b=>simp only[opE] at h;split at h<;>first | exact(Zax h).2.2 | cases h
  case conv k x=>simp only[opE] at h;split at h<;>first | exact(Zax h).2.2 | cases h
  case eqv ks neg x y=>
    simp only[opE] at h
    split at h
    · split at h
      · split at h
        · exact(Zax h).2.2
        · cases h
      · cases h
    · cases h
  case field off n ag x=>
    simp only[opE] at h
    split at h
    · exact key _ h
    · exact key _ h
    · cases h
  case extract x i=>
    simp only[opE] at h
    split at h
    · exact key _ h
    · split at h<;>first | exact(Zax h).2.2 | cases h
    · cases h
  all_goals (simp only[opE] at h;first | exact key _ h | exact keyD _ h)
theorem Zzf {Γ:Ctx}{cf:Zbs}{e:Env}{nid:Nat}{H:Zp}{op:O}{v:V}{up:List (Nat×Blk)}{nw:List Blk} (hs:(∃n x y,op = .store n x y)∨∃sz x y,op = .append sz x y) (h:opE Γ cf e nid H op=some (v,up,nw)) (hu:ZrB 3 up nw=true) :
    nw=[]∧(up=[]∨∃b blk old,up=[(b,blk)]∧H[b]? = some old∧old.like blk):=by
  simp only[ZrB,Bool.and_eq_true,List.isEmpty_iff] at hu
  obtain⟨hu,rfl⟩:=hu
  refine⟨rfl,?_⟩
  rcases hs with⟨n,x,y,rfl⟩ | ⟨sz,x,y,rfl⟩
  · simp only[opE] at h
    unfold ZoO at h
    split at h
    · rename_i b o _
      split at h
      · rename_i cs hb
        cases hc:(Nat.beq (y.val e).cells.length n&&Nat.ble (o+n) cs.length&&(y.val e).okb&&ZtV (y.val e).cells) with
        | false=>rw[hc] at h;cases h
        | true=>
          rw[hc] at h
          simp only[cond_true,Option.some.injEq,Prod.mk.injEq] at h
          obtain⟨rfl,rfl,_⟩:=h
          exact .inr ⟨_,_,.cells cs,rfl,by rw[← Z4];exact hb,trivial⟩
      · cases h
    · rename_i b sz i k _
      split at h
      · rename_i sz' xs hb
        cases hq:Nat.beq sz sz' with
        | false=>rw[hq] at h;cases h
        | true=>
          obtain rfl:=Nat.eq_of_beq_eq_true hq
          rw[hq] at h
          simp only[cond_true] at h
          split at h
          · rename_i x0 y0 ks h1 h2
            cases he:Zj8 ks b with
            | true=>rw[he] at h;cases h
            | false=>
              rw[he] at h
              simp only[cond_false] at h
              cases hc:(Nat.beq y0.cells.length n&&Nat.ble (k+n) x0.cells.length&&(V.d y0).okb&&(x0.isAgg || !y0.isAgg)) with
              | false=>rw[hc] at h;cases h
              | true=>
                rw[hc] at h
                simp only[cond_true,Option.some.injEq,Prod.mk.injEq] at h
                obtain⟨rfl,rfl,_⟩:=h
                cases ks with
                | nil=>exact .inr ⟨_,_,.arr sz xs,rfl,by rw[← Z4];exact hb,rfl,by rw[Zb2];simp⟩
                | cons a r=>simp[Zwi] at hu
          · cases h
      · cases h
    · cases h
  · simp only[opE] at h
    unfold Zm7 at h
    split at h
    · cases h
    · rename_i ys hy
      cases hz:Zme sz ys 0 with
      | false=>rw[hz] at h;cases h
      | true=>
        rw[hz] at h
        simp only[cond_true] at h
        split at h
        · cases hl:Nat.ble ys.length lim with
          | false=>rw[hl] at h;cases h
          | true=>rw[hl] at h;cases h
        · rename_i b sz' _
          split at h
          · rename_i sz'' xs hb
            cases hc:(Nat.beq sz sz'&&Nat.beq sz sz'') with
            | false=>rw[hc] at h;cases h
            | true=>
              rw[hc] at h
              simp only[cond_true] at h
              cases hl:Nat.ble (xs.length+ys.length) lim with
              | false=>rw[hl] at h;cases h
              | true=>rw[hl] at h;cases h
          · cases h
        · rename_i b sz' o len _
          split at h
          · rename_i sz'' xs hb
            cases hc:(Nat.beq sz sz'&&Nat.beq sz sz''&&Nat.ble (o+len+ys.length) xs.length) with
            | false=>rw[hc] at h;cases h
            | true=>
              rw[hc] at h
              simp only[cond_true,Option.some.injEq,Prod.mk.injEq] at h
              obtain⟨rfl,rfl,_⟩:=h
              simp only[Bool.and_eq_true,Nat.ble_eq] at hc
              obtain⟨⟨c1,c2⟩,c3⟩:=hc
              refine .inr ⟨_,_,.arr sz'' xs,rfl,by rw[← Z4];exact hb,(Nat.eq_of_beq_eq_true c2).symm,?_⟩
              simp only[List.length_append,List.length_take,List.length_drop]
              omega
          · cases h
        · cases h
theorem ZpT {e:Env}{H:Zp}{o:Op1}{up:List (Nat×Blk)}{nw:List Blk} (h:Zrx e H o up nw=true):ZrB o.eff up nw=true∧ZGe e H up o.op=true:=by
  unfold Zrx at h
  rwa [Bool.and_eq_true] at h
def ZcU.len (t:ZcU) (j:Nat):Nat:=(t.HH j).length
theorem Zp9 {p:Op1}:(ZaV p≤2↔(p.eff=0∨p.eff=1))∧(ZaV p=3↔p.eff=3):=by
  unfold ZaV
  split
  · rename_i h
    rw[h]
    cases Zzh p.op<;>cases Zyt p.op<;>simp
  · rename_i h;rw[h];simp
  · rename_i h;rw[h];simp
  · rename_i h0 h1 h3
    constructor
    · simp;exact⟨h0,h1⟩
    · simp;exact h3
theorem Zvv {p:Op1} (h:p.eff=1):ZaV p=1:=by unfold ZaV;simp only[h]
theorem Ztp {p:Op1} (h:ZaV p≤1):(ZaV p=0∧Zzh p.op=true)∨(ZaV p=1∧Zyt p.op=true∧p.eff≠1)∨(ZaV p=1∧p.eff=1):=by
  rcases(Zp9 (p:=p)).1.1 (by omega) with h0 | h0
  · unfold ZaV at h ⊢
    rw[h0] at h ⊢
    cases h1:Zzh p.op<;>cases h2:Zyt p.op<;>simp_all
  · exact .inr (.inr ⟨Zvv h0,h0⟩)
def ZFv:V→Option Nat
  | .ptr b _=>some b
  | .eptr b _ _ _=>some b
  | _=>none
theorem ZpQ {H H':Zp}{n:Nat}{ag:Bool}{x v:V} (h:ZdK H n ag x=some v) (hs:∀b,ZFv x=some b→∀blk,H[b]? = some blk→blk ≠ .dead→H'[b]? = some blk):ZdK H' n ag x=some v:=by
  cases x<;>try exact h
  · rename_i d
    cases d<;>exact h
  · rename_i b o
    unfold ZdK at h ⊢
    simp only[Z4] at h ⊢
    cases hb:H[b]? with
    | none=>rw[hb] at h;cases h
    | some blk=>
      rw[hb] at h
      cases blk<;>try (cases h;done)
      rw[hs b rfl _ hb (by simp)];exact h
  · rename_i b sz i k
    unfold ZdK at h ⊢
    simp only[Z4] at h ⊢
    cases hb:H[b]? with
    | none=>rw[hb] at h;cases h
    | some blk=>
      rw[hb] at h
      cases blk<;>try (cases h;done)
      rw[hs b rfl _ hb (by simp)];exact h
theorem ZyE {H:Zp}{n:Nat}{ag:Bool}{x v:V}{b:Nat} (h:ZdK H n ag x=some v) (hx:ZFv x=some b):∃blk,H[b]? = some blk∧blk ≠ .dead:=by
  cases x<;>try (cases hx;done)
  · rename_i b' o
    cases hx
    unfold ZdK at h
    simp only[Z4] at h
    cases hb:H[b]? with
    | none=>rw[hb] at h;cases h
    | some blk=>
      rw[hb] at h
      cases blk<;>try (cases h;done)
      exact⟨_,rfl,by simp⟩
  · rename_i b' sz i k
    cases hx
    unfold ZdK at h
    simp only[Z4] at h
    cases hb:H[b]? with
    | none=>rw[hb] at h;cases h
    | some blk=>
      rw[hb] at h
      cases blk<;>try (cases h;done)
      exact⟨_,rfl,by simp⟩
theorem Zwm {e:Env}{H H':Zp}{s:Nat}:∀{l:List Opd},ZyO e H H' l=true→ZBp l s=true→∃i,ZdK H 1 false (e s)=some (.mp i)∧ZdK H' 1 false (e s)=some (.mp i)
  | [],_,hs=>by cases hs
  | .c v :: l,h,hs=>by
    simp only[ZyO,Bool.and_eq_true] at h
    exact Zwm (l:=l) h.2 hs
  | .t i :: l,h,hs=>by
    simp only[ZyO,Bool.and_eq_true] at h
    simp only[ZBp,Bool.or_eq_true] at hs
    rcases hs with hs | hs
    · obtain rfl:=Nat.eq_of_beq_eq_true hs
      have h1:=h.1
      change (match e i with
        | .ptr b o=>(match ZdK H 1 false (.ptr b o),ZdK H' 1 false (.ptr b o) with | some (.mp i),some (.mp j)=>Nat.beq i j | _,_=>false)
        | _=>false)=true at h1
      split at h1
      · rename_i b o hx
        rw[hx]
        split at h1
        · rename_i i1 j1 e1 e2
          rw[e1,e2,Nat.eq_of_beq_eq_true h1]
          exact⟨_,rfl,rfl⟩
        · cases h1
      · cases h1
    · exact Zwm (l:=l) h.2 hs
section
variable {P:Program} {G:ZbH} {N:Nat} {Γ:Ctx} {cf:Zbs} {t:ZcU} {l:List Op1} {e:Env} {H:Zp} {e':Env} {H':Zp} {os:Array Oper} {B:Nat→Nat→Prop} {D:Nat→Bool}
theorem ZcU.OK.len_succ (ht:t.OK Γ cf [] l e H e' H') {j:Nat} (hj:j<l.length):t.len (j+1)=t.len j+(t.NW j).length:=by
  unfold ZcU.len
  rw[ht.h j _ (List.getElem?_eq_getElem hj),List.length_append,ZmA]
theorem ZcU.OK.len_mono (ht:t.OK Γ cf [] l e H e' H') {a:Nat}:∀(b:Nat),a≤b→b≤l.length→t.len a≤t.len b:=by
  intro b
  induction b with
  | zero => intro h _; have : a = 0 := by omega
            subst this;exact Nat.le_refl _
  | succ b ih=>
    intro h hb
    by_cases hab:a=b+1
    · subst hab;exact Nat.le_refl _
    · have h1:=ih (by omega) (by omega)
      have h2:=ht.len_succ (j:=b) (by omega)
      omega
theorem ZcU.OK.whose (ht:t.OK Γ cf [] l e H e' H') {a i:Nat}:∀(b:Nat),a≤b→b≤l.length→t.len a≤i→i<t.len b→∃j,a≤j∧j<b∧t.len j≤i∧i<t.len (j+1):=by
  intro b
  induction b with
  | zero => intro h _ h1 h2; have : a = 0 := by omega
            subst this;omega
  | succ b ih=>
    intro h hb h1 h2
    by_cases hab:a=b+1
    · subst hab;omega
    · by_cases hi:i<t.len b
      · obtain⟨j,g1,g2,g3⟩:=ih (by omega) (by omega) h1 hi
        exact⟨j,g1,by omega,g3⟩
      · exact⟨b,by omega,by omega,by omega,h2⟩
theorem ZcU.OK.one (ht:t.OK Γ cf [] l e H e' H') {i j k:Nat} (hj:j<l.length) (hk:k<l.length) (h1:t.len j≤i∧i<t.len (j+1)) (h2:t.len k≤i∧i<t.len (k+1)):j=k:=by
  rcases Nat.lt_trichotomy j k with h | h | h
  · have:=ht.len_mono (a:=j+1) k (by omega) (by omega);omega
  · exact h
  · have:=ht.len_mono (a:=k+1) j (by omega) (by omega);omega
theorem ZcU.OK.noUp (ht:t.OK Γ cf [] l e H e' H') {j:Nat}{p:Op1} (hp:l[j]? = some p) (hc:ZaV p≤2):t.UP j=[]:=by
  cases hw:t.W j with
  | false=>exact(ht.n j p hp hw).2.1
  | true=>
    have:=(ZpT (ht.y j p hp hw).2).1
    rcases(Zp9 (p:=p)).1.1 hc with h | h
    · rw[h] at this;simpa [ZrB] using this
    · rw[h] at this
      simp only[ZrB,Bool.and_eq_true,List.isEmpty_iff] at this
      exact this.1
theorem ZcU.OK.noNew (ht:t.OK Γ cf [] l e H e' H') {j:Nat}{p:Op1} (hp:l[j]? = some p) (hc:ZaV p≤1):t.NW j=[]:=by
  cases hw:t.W j with
  | false=>exact(ht.n j p hp hw).2.2
  | true=>
    rcases Ztp hc with h | h | h
    · exact Zu7 (.inl h.2) (ht.y j p hp hw).1
    · exact Zu7 (.inr h.2.1) (ht.y j p hp hw).1
    · have:=(ZpT (ht.y j p hp hw).2).1
      rw[h.2] at this
      simp only[ZrB,Bool.and_eq_true,List.isEmpty_iff] at this
      exact this.2
theorem ZcU.OK.new2 (ht:t.OK Γ cf [] l e H e' H') {i j:Nat}{p:Op1} (hp:l[j]? = some p) (h:t.len j≤i∧i<t.len (j+1)):2≤ZaV p:=by
  have hj:=(List.getElem?_eq_some_iff.1 hp).1
  rcases Nat.lt_or_ge (ZaV p) 2 with h' | h'
  · have:=ht.len_succ hj
    rw[ht.noNew hp (by omega)] at this
    simp at this
    omega
  · exact h'
theorem ZcU.OK.stay1 (ht:t.OK Γ cf [] l e H e' H') {j:Nat}{p:Op1} (hp:l[j]? = some p) (hc:ZaV p≤2):t.HH (j+1)=t.HH j++t.NW j:=by
  rw[ht.h j p hp,ht.noUp hp hc];rfl
theorem ZcU.OK.stay (ht:t.OK Γ cf [] l e H e' H') {a:Nat}:∀(b:Nat),a≤b→b≤l.length→(∀m p,a≤m→m<b→l[m]? = some p→ZaV p≤2)→∀i,i<t.len a→(t.HH b)[i]? = (t.HH a)[i]?:=by
  intro b
  induction b with
  | zero => intro h _ _ i _; have : a = 0 := by omega
            subst this;rfl
  | succ b ih=>
    intro h hb hc i hi
    by_cases hab:a=b+1
    · subst hab;rfl
    · have hp:l[b]? = some (l[b]'(by omega)):=List.getElem?_eq_getElem (by omega)
      have hm:=ht.len_mono (a:=a) b (by omega) (by omega)
      rw[ht.stay1 hp (hc b _ (by omega) (by omega) hp),List.getElem?_append_left (by unfold ZcU.len at *;omega)]
      exact ih (by omega) (by omega) (fun m p h1 h2=>hc m p h1 (by omega)) i hi
theorem ZcU.OK.like1 (ht:t.OK Γ cf [] l e H e' H') (hk:Chk P G N os l B) {j:Nat}{p:Op1} (hp:l[j]? = some p) (hc:ZaV p≤3) {i:Nat} (hi:i<t.len j):∃x y,(t.HH j)[i]? = some x∧(t.HH (j+1))[i]? = some y∧(x=y∨x.like y):=by
  have same:t.UP j=[]→∃x y,(t.HH j)[i]? = some x∧(t.HH (j+1))[i]? = some y∧(x=y∨x.like y):=fun hu=>by
    refine⟨_,_,List.getElem?_eq_getElem hi,?_,.inl rfl⟩
    rw[ht.h j p hp,hu]
    show(t.HH j++t.NW j)[i]? = _
    rw[List.getElem?_append_left hi]
    exact List.getElem?_eq_getElem hi
  rcases Nat.lt_or_ge (ZaV p) 3 with h | h
  · exact same (ht.noUp hp (by omega))
  · have he:=(Zp9 (p:=p)).2.1 (by omega)
    cases hw:t.W j with
    | false=>exact same (ht.n j p hp hw).2.1
    | true=>
      obtain⟨y1,y2⟩:=ht.y j p hp hw
      rw[hk.mask j p hp h] at y1
      have y2:=(ZpT y2).1
      rw[he] at y2
      have hs:(∃n x y,p.op = .store n x y)∨∃sz x y,p.op = .append sz x y:=by
        have:=hk.eff3 j p hp
        unfold ZwB at this
        rw[he] at this
        cases hop:p.op<;>rw[hop] at this<;>first | (cases this;done) | exact .inl ⟨_,_,_,rfl⟩ | exact .inr ⟨_,_,_,rfl⟩
      obtain⟨f1,f2⟩:=Zzf hs y1 y2
      rcases f2 with f2 | ⟨b,blk,old,f2,f3,f4⟩
      · exact same f2
      · by_cases hbi:b=i
        · subst hbi
          refine⟨old,blk,f3,?_,.inr f4⟩
          rw[ht.h j p hp,f1,f2]
          simp only[ZeX,List.append_nil,Zb2]
          rw[List.getElem?_set,if_pos rfl,if_pos (show b<(t.HH j).length from hi)]
        · refine⟨_,_,List.getElem?_eq_getElem hi,?_,.inl rfl⟩
          rw[ht.h j p hp,f1,f2]
          simp only[ZeX,List.append_nil,Zb2]
          rw[List.getElem?_set,if_neg hbi]
          exact List.getElem?_eq_getElem hi
theorem ZcU.OK.like (ht:t.OK Γ cf [] l e H e' H') (hk:Chk P G N os l B) {a:Nat}:∀(b:Nat),a≤b→b≤l.length→(∀m p,a≤m→m<b→l[m]? = some p→ZaV p≤3)→∀i,i<t.len a→∃x y,(t.HH a)[i]? = some x∧(t.HH b)[i]? = some y∧(x=y∨x.like y):=by
  intro b
  induction b with
  | zero => intro h _ _ i hi; have : a = 0 := by omega
            subst this;exact⟨_,_,List.getElem?_eq_getElem hi,List.getElem?_eq_getElem hi,.inl rfl⟩
  | succ b ih=>
    intro h hb hc i hi
    by_cases hab:a=b+1
    · subst hab;exact⟨_,_,List.getElem?_eq_getElem hi,List.getElem?_eq_getElem hi,.inl rfl⟩
    · have hp:l[b]? = some (l[b]'(by omega)):=List.getElem?_eq_getElem (by omega)
      have hm:=ht.len_mono (a:=a) b (by omega) (by omega)
      obtain⟨x,y,h1,h2,h3⟩:=ih (by omega) (by omega) (fun m p h1 h2=>hc m p h1 (by omega)) i hi
      obtain⟨y',z,g1,g2,g3⟩:=ht.like1 hk hp (hc b _ (by omega) (by omega) hp) (i:=i) (by omega)
      rw[h2] at g1
      cases g1
      refine⟨x,z,h1,g2,?_⟩
      rcases h3 with rfl | h3
      · exact g3
      · rcases g3 with rfl | g3
        · exact .inr h3
        · exact .inr (Blk.like_trans h3 g3)
theorem ZcU.OK.env0 (ht:t.OK Γ cf [] l e H e' H') {x:Nat}:∀(j:Nat),j≤l.length→(∀i p,i<j→l[i]? = some p→p.dst≠some x)→t.E j x=e x:=by
  intro j
  induction j with
  | zero=>intro _ _;rw[ht.e0]
  | succ j ih=>
    intro hj hn
    have hp:l[j]? = some (l[j]'(by omega)):=List.getElem?_eq_getElem (by omega)
    rw[ht.e j _ hp]
    have h1:=hn j _ (by omega) hp
    have h2:=ih (by omega) (fun i p hi=>hn i p (by omega))
    cases hd:(l[j]'(by omega)).dst with
    | none=>exact h2
    | some d=>
      rw[hd] at h1
      show(bif Nat.beq d x then t.VV j else t.E j x)=e x
      have:Nat.beq d x=false:=by
        cases hb:Nat.beq d x with
        | false=>rfl
        | true=>exact absurd (congrArg some (Nat.eq_of_beq_eq_true hb)) h1
      rw[this];exact h2
theorem ZcU.OK.envd (ht:t.OK Γ cf [] l e H e' H') (hk:Chk P G N os l B) {i x:Nat}{p:Op1} (hp:l[i]? = some p) (hd:p.dst=some x):∀(j:Nat),i<j→j≤l.length→t.E j x=t.VV i:=by
  intro j
  induction j with
  | zero=>intro h;omega
  | succ j ih=>
    intro hij hj
    have hq:l[j]? = some (l[j]'(by omega)):=List.getElem?_eq_getElem (by omega)
    rw[ht.e j _ hq]
    by_cases h:i=j
    · subst h
      rw[hp] at hq
      cases hq
      rw[hd]
      show(bif Nat.beq x x then t.VV i else _)=_
      rw[Nat.beq_refl];rfl
    · have h2:=ih (by omega) (by omega)
      cases hd':(l[j]'(by omega)).dst with
      | none=>exact h2
      | some d=>
        show(bif Nat.beq d x then t.VV j else t.E j x)=_
        have:Nat.beq d x=false:=by
          cases hb:Nat.beq d x with
          | false=>rfl
          | true=>
            obtain rfl:=Nat.eq_of_beq_eq_true hb
            exact absurd (hk.dst i j p _ d hp hq hd hd') h
        rw[this];exact h2
theorem ZcU.OK.envs (ht:t.OK Γ cf [] l e H e' H') (hk:Chk P G N os l B) {j x:Nat}{q:Op1} (hq:l[j]? = some q) (he:q.eff=1) (hx:x∈ZdO q):∀(k:Nat),j≤k→k≤l.length→t.E k x=t.E j x:=by
  intro k
  induction k with
  | zero => intro h _; have : j = 0 := by omega
            subst this;rfl
  | succ k ih=>
    intro hjk hk'
    by_cases h:j=k+1
    · subst h;rfl
    · have hp:l[k]? = some (l[k]'(by omega)):=List.getElem?_eq_getElem (by omega)
      have h2:=ih (by omega) (by omega)
      rw[ht.e k _ hp]
      cases hd:(l[k]'(by omega)).dst with
      | none=>exact h2
      | some d=>
        show(bif Nat.beq d x then t.VV k else t.E k x)=_
        have:Nat.beq d x=false:=by
          cases hb:Nat.beq d x with
          | false=>rfl
          | true=>
            obtain rfl:=Nat.eq_of_beq_eq_true hb
            exact absurd hx (hk.stay k j _ q d hp hq he (by omega) hd)
        rw[this];exact h2
theorem Chk.lt (hk:Chk P G N os l B):∀(j i:Nat),j<l.length→B i j→i<j:=by
  intro j
  induction j using Nat.strongRecOn with
  | ind j ih=>
    intro i hj hb
    obtain⟨k,h1,h2⟩:=hk.bef j _ i (Array.getElem?_eq_getElem (by rw[hk.len];exact hj)) hb
    have h3:=hk.pre j _ (Array.getElem?_eq_getElem (by rw[hk.len];exact hj)) k h1
    rcases h2 with rfl | ⟨h4,h5⟩
    · exact h3
    · have:=ih k h4 i (by omega) h5;omega
def Zrc (os:Array Oper) (D:Nat→Bool):Prop:=∀(j:Nat) o,os[j]? = some o→D j=true→∀i∈Zp3 o,D i=true
theorem Chk.down (hk:Chk P G N os l B) (hD:Zrc os D):∀(j i:Nat) o,os[j]? = some o→(∀k∈Zp3 o,D k=true)→B i j→D i=true:=by
  intro j
  induction j using Nat.strongRecOn with
  | ind j ih=>
    intro i o ho hp hb
    obtain⟨k,h1,h2⟩:=hk.bef j o i ho hb
    rcases h2 with rfl | ⟨h4,h5⟩
    · exact hp _ h1
    · have hk':k<os.size:=by
        have:=(Array.getElem?_eq_some_iff.1 ho).1;omega
      exact ih k h4 i _ (Array.getElem?_eq_getElem hk') (fun m hm=>hD k _ (Array.getElem?_eq_getElem hk') (hp k h1) m hm) h5
theorem Chk.downD (hk:Chk P G N os l B) (hD:Zrc os D) {i j:Nat} (hj:j<l.length) (h:D j=true) (hb:B i j):D i=true:=
  hk.down hD j i _ (Array.getElem?_eq_getElem (by rw[hk.len];exact hj)) (hD j _ (Array.getElem?_eq_getElem (by rw[hk.len];exact hj)) h) hb
theorem Chk.order (hk:Chk P G N os l B) {i j:Nat}{p q:Op1} (hp:l[i]? = some p) (hq:l[j]? = some q) (hc:3≤ZaV p) (hc2:2≤ZaV q):i=j∨(i<j∧B i j)∨(j<i∧B j i):=by
  have hi:=(List.getElem?_eq_some_iff.1 hp).1
  have hj:=(List.getElem?_eq_some_iff.1 hq).1
  rcases hk.pair i j p q hp hq hc with h | h | h | h | h | h
  · exact .inl h
  · exact .inr (.inl ⟨hk.lt j i hj h,h⟩)
  · exact .inr (.inr ⟨hk.lt i j hi h,h⟩)
  · omega
  · omega
  · have:=Zvv h.1;omega
def hid (t:ZcU) (D:Nat→Bool) (K i:Nat):Bool:=(List.range K).any fun j=>!(D j)&&(decide (t.len j≤i)&&decide (i<t.len (j+1)))
def ZjR (t:ZcU) (D:Nat→Bool) (K:Nat):Zp:=(t.HH K).mapIdx fun i b=>bif hid t D K i then .dead else b
theorem Zua {K i:Nat}:hid t D K i=true↔∃j,j<K∧D j=false∧t.len j≤i∧i<t.len (j+1):=by
  unfold hid
  simp[List.any_eq_true]
theorem Zk9 {K i:Nat}:hid t D K i=false↔∀j,j<K→t.len j≤i→i<t.len (j+1)→D j=true:=by
  rw[← Bool.not_eq_true,Zua]
  constructor
  · intro h j h1 h2 h3
    cases hd:D j with
    | true=>rfl
    | false=>exact absurd ⟨j,h1,hd,h2,h3⟩ h
  · rintro h ⟨j,h1,h2,h3,h4⟩
    rw[h j h1 h3 h4] at h2;cases h2
theorem Znh {K i:Nat}:(ZjR t D K)[i]? = ((t.HH K)[i]?).map fun b=>bif hid t D K i then .dead else b:=by
  unfold ZjR
  rw[List.getElem?_mapIdx]
theorem ZwK {K i:Nat}{blk:Blk} (h:(ZjR t D K)[i]? = some blk) (hd:blk ≠ .dead):(t.HH K)[i]? = some blk∧hid t D K i=false:=by
  rw[Znh] at h
  cases hb:(t.HH K)[i]? with
  | none=>rw[hb] at h;cases h
  | some b=>
    rw[hb] at h
    simp only[Option.map_some,Option.some.injEq] at h
    cases hh:hid t D K i with
    | true=>rw[hh] at h;exact absurd h.symm hd
    | false=>rw[hh] at h;exact⟨by rw[← h];rfl,rfl⟩
theorem Zhy {K i:Nat} (h:hid t D K i=false):(ZjR t D K)[i]? = (t.HH K)[i]?:=by
  rw[Znh,h]
  cases (t.HH K)[i]?<;>rfl
theorem ZBt (l:List Op1) (a:Nat) (ha:a≤l.length):∃K,a≤K∧K≤l.length∧(∀m p,a≤m→m<K→l[m]? = some p→ZaV p≤2)∧(K<l.length→∃p,l[K]? = some p∧3≤ZaV p):=by
  have key:∀n a,l.length-a=n→a≤l.length→∃K,a≤K∧K≤l.length∧(∀m p,a≤m→m<K→l[m]? = some p→ZaV p≤2)∧(K<l.length→∃p,l[K]? = some p∧3≤ZaV p):=by
    intro n
    induction n with
    | zero=>intro a h1 h2;exact⟨a,Nat.le_refl _,h2,fun m p h3 h4=>by omega,fun h=>by omega⟩
    | succ n ih=>
      intro a h1 h2
      have hp:l[a]? = some (l[a]'(by omega)):=List.getElem?_eq_getElem (by omega)
      rcases Nat.lt_or_ge (ZaV (l[a]'(by omega))) 3 with h | h
      · obtain⟨K,g1,g2,g3,g4⟩:=ih (a+1) (by omega) (by omega)
        refine⟨K,by omega,g2,fun m p h3 h4 h5=>?_,g4⟩
        by_cases hm:m=a
        · subst hm;rw[hp] at h5;cases h5;omega
        · exact g3 m p (by omega) h4 h5
      · exact⟨a,Nat.le_refl _,h2,fun m p h3 h4=>by omega,fun _=>⟨_,hp,h⟩⟩
  exact key _ a rfl ha
end
end Go.Proofs.YtnmbdjkbaihicaaGreatDoorE
namespace Go.Proofs.YtnmbdjkbaihicaaGreatDoorE
open Go
set_option linter.unusedVariables false
set_option linter.unusedSimpArgs false
theorem ZvJ {e e':Env}:∀(g:Option (Nat×Bool)),(∀s b,g=some (s,b)→e s=e' s)→Zgv e g=Zgv e' g
 | none,_=>rfl
 | some (s,b),h=>by simp only[Zgv,h s b rfl]
section
variable {P:Program} {G:ZbH} {N:Nat} {Γ:Ctx} {cf:Zbs} {t:ZcU} {l:List Op1} {e:Env} {H:Zp} {e':Env} {H':Zp} {os:Array Oper} {B:Nat→Nat→Prop} {Rf:RP} {wf:World}
structure ZyH (P:Program) (N:Nat) (t:ZcU) (l:List Op1) (os:Array Oper) (e:Env) (H:Zp) (Rf:RP) (wf:World) (D:Nat→Bool) (a:Act) (w:World):Prop where
 closed:Zrc os D
 ex:∃K R env,K≤l.length∧(∀m p,l[m]? = some p→m<K→3≤ZaV p→D m=true)∧(K<l.length→∃p,l[K]? = some p∧3≤ZaV p∧D K=false) ∧
  Ext Rf wf R w∧R.OK w∧R.H=ZjR t D K∧(∀i,H.length≤i→(∀j,j<l.length→D j=true→¬(t.len j≤i∧i<t.len (j+1)))→R.M i=none)∧Zit R w env a ∧
  (∀j p d,l[j]? = some p→p.dst=some d→D j=true→env d=t.VV j)∧(∀d,(∀j p,l[j]? = some p→p.dst=some d→D j=false)→env d=e d)
 tm:N≤a.tmps.size
 df:a.defers=[]
theorem ZzD (ht:t.OK Γ cf [] l e H e' H') {D:Nat→Bool}{s:Nat}{R:RP}{w:World} (hs:s≤l.length) (ok:R.OK w) (hH:R.H=t.HH s) (hb:∀m p,l[m]? = some p→m<s→2≤ZaV p→D m=true) (ha:∀m p,l[m]? = some p→s≤m→2≤ZaV p→D m=false) :
  ∃K,K≤l.length∧(∀m p,l[m]? = some p→m<K→3≤ZaV p→D m=true)∧(K<l.length→∃p,l[K]? = some p∧3≤ZaV p∧D K=false)∧Ext R w { R with H:=ZjR t D K } w∧RP.OK { R with H:=ZjR t D K } w:=by
 obtain⟨K,h1,h2,h3,h4⟩:=ZBt l s hs
 have live:∀(i:Nat) blk,(ZjR t D K)[i]? = some blk→blk ≠ .dead→R.H[i]? = some blk:=fun i blk h hd=>by
  obtain⟨g1,g2⟩:=ZwK h hd
  rw[Zk9] at g2
  have hiK:i<t.len K:=(List.getElem?_eq_some_iff.1 g1).1
  by_cases hi:i<t.len s
  ·rw[hH,← ht.stay K h1 h2 h3 i hi];exact g1
  ·obtain⟨j,f1,f2,f3,f4⟩:=ht.whose K h1 h2 (by omega) hiK
   have hp:l[j]? = some (l[j]'(by omega)):=List.getElem?_eq_getElem (by omega)
   have d1:=ha j _ hp f1 (ht.new2 hp ⟨f3,f4⟩)
   rw[g2 j f2 f3 f4] at d1;cases d1
 refine⟨K,h2,fun m p hp hm hc=>?_,fun hK=>?_,Ext.kill live,ok.kill live⟩
 ·rcases Nat.lt_or_ge m s with h | h
  ·exact hb m p hp h (by omega)
  ·have:=h3 m p h hm hp;omega
 ·obtain⟨p,f1,f2⟩:=h4 hK
  exact⟨p,f1,f2,ha K p f1 h1 (by omega)⟩
def upd (D:Nat→Bool) (j:Nat):Nat→Bool:=fun i=>if i=j then true else D i
theorem step (c:Zpx P G cf Rf wf) (hlo:Rf.H.length≤H.length) (ht:t.OK Γ cf [] l e H e' H') (hk:Chk P G N os l B) {Q:Exit→Act→World→Prop}{D:Nat→Bool}{a:Act}{w:World} (s:ZyH P N t l os e H Rf wf D a w) {j:Nat}{o:Oper} (ho:os[j]? = some o) (hDj:D j=false) (hpre:∀i∈Zp3 o,D i=true) :
  wpOp P os Q j (fun a' w'=>ZyH P N t l os e H Rf wf (upd D j) a' w') a w:=by
 obtain⟨K,R,env,hK,hKd,hKn,x,ok,hH,hM,hE,hV,hO⟩:=s.ex
 have hjl:j<l.length:=by rw[← hk.len];exact(Array.getElem?_eq_some_iff.1 ho).1
 obtain⟨p,hp⟩:∃p,l[j]? = some p:=⟨_,List.getElem?_eq_getElem hjl⟩
 have hoper:=hk.oper j o p ho hp
 simp only[ZsJ,Bool.and_eq_true] at hoper
 obtain⟨k1,k2,k3⟩:=hoper
 have down:∀i,B i j→D i=true:=fun i hb=>hk.down s.closed j i o ho hpre hb
 have downD:∀i k,k<l.length→D k=true→B i k→D i=true:=fun i k h1 h2 h3=>hk.downD s.closed h1 h2 h3
 have slot:∀d,d∈ZdO p→env d=t.E j d:=fun d hd=>by
  by_cases hx:∃(i:Nat) (q:Op1),l[i]? = some q∧q.dst=some d
  ·obtain⟨i,q,hq,hqd⟩:=hx
   have old:j≤i→D i=false→env d=t.E j d:=fun hji hDi=>by
    rw[hO d fun i' q' hq' hqd'=>by rw[hk.dst i' i q' q d hq' hq hqd' hqd];exact hDi,ht.env0 j (by omega) fun i' q' hi' hq' hqd'=>by
     have:=hk.dst i' i q' q d hq' hq hqd' hqd;omega]
   rcases hk.reads i j q p d hq hp hqd hd with hb | hb | hb
   ·rw[hV i q d hq hqd (down i hb),ht.envd hk hq hqd j (hk.lt j i hjl hb) (by omega)]
   ·have hi:=(List.getElem?_eq_some_iff.1 hq).1
    refine old (Nat.le_of_lt (hk.lt i j hi hb)) ?_
    cases hDi:D i with
    | false=>rfl
    | true=>have:=downD j i hi hDi hb;rw[hDj] at this;cases this
   ·subst hb;exact old (Nat.le_refl _) hDj
  ·have hn:∀(i:Nat) (q:Op1),l[i]? = some q→q.dst≠some d:=fun i q hq hqd=>hx ⟨i,q,hq,hqd⟩
   rw[hO d fun i q hq hqd=>absurd hqd (hn i q hq),ht.env0 j (by omega) fun i q _ hq=>hn i q hq]
 have hg:Zgv env p.guard=some (t.W j):=by
  rw[← ht.w j p hp]
  refine ZvJ _ fun s' b hs=>slot s' ?_
  unfold ZdO
  rw[hs];simp
 have hwant:=Zv3 (a:=a) hE k2 hg
 have hop:∀nid Hm,opE Γ cf env nid Hm p.op=opE Γ cf (t.E j) nid Hm p.op:=fun nid Hm=>by
  refine ZyV _ fun y hy=>?_
  cases y with
  | c v=>rfl
  | t i=>
   refine slot i ?_
   unfold ZdO
   exact List.mem_append_left _ (List.mem_filterMap.2 ⟨.t i,hy,rfl⟩)
 have closed':Zrc os (upd D j):=fun k o' hk' hd i hi=>by
  unfold upd at hd ⊢
  by_cases hik:i=j
  ·rw[if_pos hik]
  ·rw[if_neg hik]
   by_cases hkj:k=j
   ·subst hkj;rw[ho] at hk';cases hk';exact hpre i hi
   ·rw[if_neg hkj] at hd;exact s.closed k o' hk' hd i hi
 have fin:∀(K':Nat) (R':RP) (u:Value) (w':World),K'≤l.length→(∀m p,l[m]? = some p→m<K'→3≤ZaV p→upd D j m=true)→(K'<l.length→∃p,l[K']? = some p∧3≤ZaV p∧upd D j K'=false) →
   Ext R w R' w'→R'.OK w'→R'.H=ZjR t (upd D j) K'→(∀i,R.M i=none→¬(t.len j≤i∧i<t.len (j+1))→R'.M i=none)→Zbd R' w' (t.VV j) u→ZyH P N t l os e H Rf wf (upd D j) (a.put o.dst u) w':=by
  intro K' R' u w' hK' hKd' hKn' x' ok' hH' hM' hv
  refine⟨closed',⟨K',R',Zsn env p.dst (t.VV j),hK',hKd',hKn',x.trans x',ok',hH',fun i hi hni=>?_,Zt2 (x'.envOK ok.b01 hE) k1 s.tm hv,fun i q d hq hqd hd=>?_,fun d hd=>?_⟩,by rw[Zwl];exact s.tm,by rw[ZwV];exact s.df⟩
  ·refine hM' i (hM i hi fun m hm hd=>hni m hm ?_) (hni j hjl ?_)
   ·unfold upd;split
    ·rfl
    ·exact hd
   ·unfold upd;rw[if_pos rfl]
  ·cases hpd:p.dst with
   | none=>
    show env d=_
    have hij:i≠j:=fun h=>by subst h;rw[hp] at hq;cases hq;rw[hpd] at hqd;cases hqd
    refine hV i q d hq hqd ?_
    unfold upd at hd;rw[if_neg hij] at hd;exact hd
   | some d'=>
    show(bif Nat.beq d' d then t.VV j else env d)=_
    cases hb:Nat.beq d' d with
    | true=>
     obtain rfl:=Nat.eq_of_beq_eq_true hb
     obtain rfl:=hk.dst i j q p d' hq hp hqd hpd
     rfl
    | false=>
     have hij:i≠j:=fun h=>by
      subst h;rw[hp] at hq;cases hq;rw[hpd] at hqd;cases hqd;rw[Nat.beq_refl] at hb;cases hb
     refine hV i q d hq hqd ?_
     unfold upd at hd;rw[if_neg hij] at hd;exact hd
  ·have h0:env d=e d:=hO d fun i q hq hqd=>by
    have:=hd i q hq hqd
    unfold upd at this
    by_cases hij:i=j
    ·rw[if_pos hij] at this;cases this
    ·rw[if_neg hij] at this;exact this
   cases hpd:p.dst with
   | none=>exact h0
   | some d'=>
    show(bif Nat.beq d' d then t.VV j else env d)=_
    cases hb:Nat.beq d' d with
    | false=>exact h0
    | true=>
     obtain rfl:=Nat.eq_of_beq_eq_true hb
     have:=hd j p hp hpd
     unfold upd at this;rw[if_pos rfl] at this;cases this
 have hlen:=ht.len_succ hjl
 have own:∀i m,m<l.length→(t.len m≤i∧i<t.len (m+1))→(t.len j≤i∧i<t.len (j+1))→m=j:=fun i m hm h1 h2=>ht.one hm hjl h1 h2
 have base:H.length≤t.len j:=by
  have:=ht.len_mono (a:=0) j (by omega) (by omega)
  unfold ZcU.len at this ⊢;rw[ht.h0] at this;exact this
 have free:∀i,t.len j≤i→i<t.len j+(t.NW j).length→R.M i=none:=fun i h1 h2=>hM i (by omega) fun m hm hd h=>by
  have:=own i m hm h ⟨h1,by omega⟩
  subst this;rw[hDj] at hd;cases hd
 rcases Nat.lt_or_ge (ZaV p) 3 with hc | hc
 ·
  have hKd':∀m p,l[m]? = some p→m<K→3≤ZaV p→upd D j m=true:=fun m p' h1 h2 h3=>by
   unfold upd;split
   ·rfl
   ·exact hKd m p' h1 h2 h3
  have hKn':K<l.length→∃p,l[K]? = some p∧3≤ZaV p∧upd D j K=false:=fun h=>by
   obtain⟨q,h1,h2,h3⟩:=hKn h
   refine⟨q,h1,h2,?_⟩
   unfold upd;rw[if_neg (fun h=>by subst h;rw[hp] at h1;cases h1;omega)];exact h3
  have two:2≤ZaV p→j<K∧∀m q,j≤m→m<K→l[m]? = some q→ZaV q≤2:=fun h2=>by
   constructor
   ·rcases Nat.lt_or_ge j K with h | h
    ·exact h
    ·obtain⟨q,g1,g2,g3⟩:=hKn (by omega)
     rcases hk.order g1 hp g2 h2 with f | f | f
     ·subst f;rw[hp] at g1;cases g1;omega
     ·rw[down K f.2] at g3;cases g3
     ·omega
   ·intro m q h3 h4 hq
    rcases Nat.lt_or_ge (ZaV q) 3 with h | h
    ·omega
    ·rcases hk.order hq hp h h2 with f | f | f
     ·subst f;rw[hp] at hq;cases hq;omega
     ·omega
     ·have:=downD j m (by omega) (hKd m q hq h4 h) f.2
      rw[hDj] at this;cases this
  have stg:∀i,(ZjR t (upd D j) K)[i]? = if t.len j≤i∧i<t.len j+(t.NW j).length then (t.NW j)[i-t.len j]? else (ZjR t D K)[i]?:=fun i=>by
   by_cases hi:t.len j≤i∧i<t.len j+(t.NW j).length
   ·rw[if_pos hi]
    have h2:=ht.new2 hp (i:=i) ⟨hi.1,by omega⟩
    obtain⟨t1,t2⟩:=two h2
    rw[Zhy]
    ·rw[ht.stay (a:=j+1) K (by omega) hK (fun m q h3 h4 hq=>t2 m q (by omega) h4 hq) i (by omega),ht.stay1 hp (by omega),List.getElem?_append_right hi.1]
     rfl
    ·rw[Zk9]
     intro m hm h3 h4
     have:=own i m (by omega) ⟨h3,h4⟩ ⟨hi.1,by omega⟩
     unfold upd;rw[if_pos this]
   ·rw[if_neg hi,Znh,Znh]
    have:hid t (upd D j) K i=hid t D K i:=by
     rw[Bool.eq_iff_iff,Zua,Zua]
     constructor
     ·rintro ⟨m,h1,h2,h3⟩
      unfold upd at h2
      by_cases hm:m=j
      ·rw[if_pos hm] at h2;cases h2
      ·rw[if_neg hm] at h2;exact⟨m,h1,h2,h3⟩
     ·rintro ⟨m,h1,h2,h3,h4⟩
      have hm:m≠j:=fun h=>by subst h;omega
      exact⟨m,h1,by unfold upd;rw[if_neg hm];exact h2,h3,h4⟩
    rw[this]
  have hpl:t.UP j=[]:=ht.noUp hp (by omega)
  unfold wpOp
  simp only[ho]
  cases hw:t.W j with
  | false=>
   rw[hw] at hwant
   rw[hwant]
   simp only[Bool.false_eq_true,if_false]
   obtain⟨n1,n2,n3⟩:=ht.n j p hp hw
   refine fin K R undef w hK hKd' hKn' (Ext.refl R w) ok ?_ (fun i h _=>h) (by rw[n1];exact ZrV)
   rw[hH]
   apply List.ext_getElem?
   intro i
   rw[stg i,n3,if_neg (by rintro ⟨h1,h2⟩;simp at h2;omega)]
  | true=>
   rw[hw] at hwant
   rw[hwant]
   simp only[if_true]
   obtain⟨y1,y2⟩:=ht.y j p hp hw
   rw[hpl] at y1
   have see:ZaV p≤2→∀i blk,(Zhm (t.HH j) ([]++t.pos j) p.mask)[i]? = some blk→blk ≠ .dead→(t.HH j)[i]? = some blk∧∀m,m<j→t.len m≤i→i<t.len (m+1)→D m=true:=fun _ i blk h hd=>by
    obtain⟨h1,h2⟩:=Zqy _ _ _ i blk h hd
    refine⟨h1,fun m hm h3 h4=>?_⟩
    have hq:l[m]? = some (l[m]'(by omega)):=List.getElem?_eq_getElem (by omega)
    rcases hk.early m j _ p hq hp hm with f | f | f
    ·omega
    ·exact down m f
    ·have h5:=h2 m f (t.len m) (t.NW m).length (by simp[ZcU.pos,hm,ZcU.len])
     have:=ht.len_succ (j:=m) (by omega)
     omega
   have hHm:∃Hm,(∀b blk,nth Hm b=some blk→blk ≠ .dead→nth R.H b=some blk)∧opE Γ cf env (t.len j) Hm p.op=some (t.VV j,[],t.NW j):=by
    rcases Nat.lt_or_ge (ZaV p) 2 with h2 | h2
    ·rcases Ztp (p:=p) (by omega) with⟨_,h0⟩ | ⟨h01,h1,hne⟩ | ⟨h01,he1⟩
     ·refine⟨[],fun b blk hb=>by simp[nth] at hb,?_⟩
      rw[hop,ZDd (nid':=(t.HH j).length) (H':=Zhm (t.HH j) ([]++t.pos j) p.mask) h0];exact y1
     ·refine⟨R.H,fun b blk hb _=>hb,?_⟩
      rw[hop]
      refine ZDa (H:=Zhm (t.HH j) ([]++t.pos j) p.mask) (fun b blk hb hd=>?_) h1 y1
      rw[Z4] at hb
      obtain⟨g1,g2⟩:=see (by omega) b blk hb hd
      have hbj:b<t.len j:=(List.getElem?_eq_some_iff.1 g1).1
      have hbK:b<t.len K:=by
       rcases Nat.lt_or_ge j K with h | h
       ·have:=ht.len_mono (a:=j) K (by omega) hK;omega
       ·by_cases hb0:b<t.len 0
        ·have:=ht.len_mono (a:=0) K (by omega) hK;omega
        ·obtain⟨m,_,f2,f3,f4⟩:=ht.whose (a:=0) j (by omega) (by omega) (by omega) hbj
         have hdm:=g2 m f2 f3 f4
         have hq:l[m]? = some (l[m]'(by omega)):=List.getElem?_eq_getElem (by omega)
         have hmK:m<K:=by
          rcases Nat.lt_or_ge m K with h' | h'
          ·exact h'
          ·obtain⟨q,q1,q2,q3⟩:=hKn (by omega)
           rcases hk.order q1 hq q2 (ht.new2 hq ⟨f3,f4⟩) with f | f | f
           ·subst f;rw[hdm] at q3;cases q3
           ·rw[downD K m (by omega) hdm f.2] at q3;cases q3
           ·omega
         have:=ht.len_mono (a:=m+1) K (by omega) hK;omega
      have hhid:hid t D K b=false:=by
       rw[Zk9]
       intro m hm h3 h4
       rcases Nat.lt_or_ge m j with h | h
       ·exact g2 m h h3 h4
       ·have:=ht.len_mono (a:=j) m h (by omega);omega
      rw[Z4,hH,Zhy hhid]
      have three:∀m q,l[m]? = some q→(j≤m∧m<K∨K≤m∧m<j)→ZaV q≤3:=fun m q hq hm=>by
       rcases Nat.lt_or_ge (ZaV q) 3 with h | h
       ·omega
       ·rcases hk.pair m j q p hq hp h with f | f | f | f | f | f
        ·subst f;rw[hp] at hq;cases hq;omega
        ·rcases hm with hm | hm
         ·have:=hk.lt j m hjl f;omega
         ·have hdm:=down m f
          obtain⟨q',q1,q2,q3⟩:=hKn (by omega)
          rcases hk.order q1 hq q2 (by omega) with g | g | g
          ·subst g;rw[hdm] at q3;cases q3
          ·rw[downD K m (by omega) hdm g.2] at q3;cases q3
          ·omega
        ·rcases hm with hm | hm
         ·have:=downD j m (by omega) (hKd m q hq hm.2 h) f
          rw[hDj] at this;cases this
         ·have:=hk.lt m j (by omega) f;omega
        ·omega
        ·omega
        ·exact absurd f.1 hne
      rcases Nat.le_total j K with h | h
      ·obtain⟨x1,y1',z1,z2,z3⟩:=ht.like hk (a:=j) K h hK (fun m q h3 h4 hq=>three m q hq (.inl ⟨h3,h4⟩)) b hbj
       rw[g1] at z1;cases z1
       exact⟨y1',z2,z3.elim (fun h=>h ▸ Blk.like_refl hd) id⟩
      ·obtain⟨x1,y1',z1,z2,z3⟩:=ht.like hk (a:=K) j h (by omega) (fun m q h3 h4 hq=>three m q hq (.inr ⟨h3,h4⟩)) b hbK
       rw[g1] at z2;cases z2
       exact⟨x1,z1,z3.elim (fun h=>by subst h;exact Blk.like_refl hd) Blk.like_symm⟩
     ·
      obtain⟨s',hops,hgd⟩:∃s',p.op = .load 1 false (.t s')∧p.guard=none:=by
       have:=hk.eff1 j p hp
       unfold Zwn at this
       rw[he1] at this
       change (match p.op,p.guard with | .load 1 false (.t _),none=>true | _,_=>false)=true at this
       split at this
       ·exact⟨_,by assumption,by assumption⟩
       ·cases this
      have hsl:s'∈ZdO p:=by unfold ZdO;rw[hops];simp[Zxx,ZBM]
      have hjK:j<K:=by
       rcases Nat.lt_or_ge j K with h | h
       ·exact h
       ·obtain⟨q,g1,g2,g3⟩:=hKn (by omega)
        rcases hk.pair K j q p g1 hp g2 with f | f | f | f | f | f
        ·subst f;rw[hp] at g1;cases g1;omega
        ·rw[down K f] at g3;cases g3
        ·have:=hk.lt K j (by omega) f;omega
        ·omega
        ·exact absurd he1 f.2.2
        ·omega
      have ldE:∀(Hx:Zp) (k:Nat),opE Γ cf (t.E j) k Hx p.op=(match ZdK Hx 1 false (t.E j s') with | some v=>Zdt v | none=>none):=fun Hx k=>by rw[hops];rfl
      rw[ldE] at y1
      have hyl:ZdK (Zhm (t.HH j) ([]++t.pos j) p.mask) 1 false (t.E j s')=some (t.VV j)∧t.NW j=[]:=by
       cases hl:ZdK (Zhm (t.HH j) ([]++t.pos j) p.mask) 1 false (t.E j s') with
       | none=>rw[hl] at y1;cases y1
       | some v=>
        rw[hl] at y1
        obtain⟨rfl,_,h3⟩:=Zax y1
        exact⟨rfl,h3⟩
      obtain⟨hyl,hnw⟩:=hyl
      have key:∀k,j≤k→k≤K→ZdK (t.HH k) 1 false (t.E j s')=some (t.VV j):=by
       intro k
       induction k with
       | zero=>
        intro h _
        have:j=0:=by omega
        subst this
        exact ZpQ hyl fun b _ blk hb hd=>(see (by omega) b blk hb hd).1
       | succ k ih=>
        intro hjk hkK
        by_cases hjk':j=k+1
        ·subst hjk'
         exact ZpQ hyl fun b _ blk hb hd=>(see (by omega) b blk hb hd).1
        ·have ih':=ih (by omega) (by omega)
         have hq:l[k]? = some (l[k]'(by omega)):=List.getElem?_eq_getElem (by omega)
         have app:∀(Ha Hb:Zp),ZdK Ha 1 false (t.E j s')=some (t.VV j)→ZdK (Ha++Hb) 1 false (t.E j s')=some (t.VV j):=fun Ha Hb hl=>
          ZpQ hl fun b _ blk hb _=>by rw[List.getElem?_append_left (List.getElem?_eq_some_iff.1 hb).1];exact hb
         rcases Nat.lt_or_ge (ZaV (l[k]'(by omega))) 3 with h | h
         ·rw[ht.stay1 hq (by omega)]
          exact app _ _ ih'
         ·rcases hk.pair k j _ p hq hp h with f | f | f | f | f | f
          ·subst f
           rw[hp] at hq
           have hq':=Option.some.inj hq
           rw[← hq'] at h
           omega
          ·have:=hk.lt j k hjl f;omega
          ·have:=downD j k (by omega) (hKd k _ hq (by omega) h) f
           rw[hDj] at this;cases this
          ·omega
          ·exact absurd he1 f.2.2
          ·cases hwk:t.W k with
           | false=>
            obtain⟨_,n2,n3⟩:=ht.n k _ hq hwk
            rw[ht.h k _ hq,n2,n3]
            exact app _ _ ih'
           | true=>
            have zc:=(ZpT (ht.y k _ hq hwk).2).2
            have hkp:=f.2.2
            unfold ZAu at hkp
            rw[hops] at hkp
            split at hkp
            ·rename_i f' args chk x' y' s'' hopk hsx
             cases hsx
             rw[hopk] at zc
             obtain⟨i0,q1,q2⟩:=Zwm (show ZyO (t.E k) (t.HH k) (ZeX (t.HH k) (t.UP k)) chk=true from zc) hkp
             rw[ht.envs hk hp he1 hsl k (by omega) (by omega)] at q1 q2
             rw[q1] at ih'
             rw[ht.h k _ hq]
             exact app _ _ (q2.trans ih')
            ·cases hkp
      refine⟨R.H,fun b blk hb _=>hb,?_⟩
      rw[hop,ldE]
      have:ZdK R.H 1 false (t.E j s')=some (t.VV j):=by
       refine ZpQ (key K (by omega) (Nat.le_refl _)) fun b hb blk hbk hd=>?_
       obtain⟨blk0,h5,h6⟩:=ZyE hyl hb
       obtain⟨g1,g2⟩:=see (by omega) b blk0 h5 h6
       have hbj:b<t.len j:=(List.getElem?_eq_some_iff.1 g1).1
       rw[hH,Zhy]
       ·exact hbk
       ·rw[Zk9]
        intro m hm h3 h4
        rcases Nat.lt_or_ge m j with h | h
        ·exact g2 m h h3 h4
        ·have:=ht.len_mono (a:=j) m h (by omega);omega
      rw[this,hnw];rfl
    ·obtain⟨t1,t2⟩:=two h2
     refine⟨_,fun b blk hb hd=>?_,by rw[hop];exact y1⟩
     rw[Z4] at hb
     obtain⟨g1,g2⟩:=see (by omega) b blk hb hd
     have hbj:b<t.len j:=(List.getElem?_eq_some_iff.1 g1).1
     rw[Z4,hH,Zhy,ht.stay K (by omega) hK t2 b hbj]
     ·exact g1
     ·rw[Zk9]
      intro m hm h3 h4
      rcases Nat.lt_or_ge m j with h | h
      ·exact g2 m h h3 h4
      ·have:=ht.len_mono (a:=j) m h (by omega);omega
   obtain⟨Hm,hle,hop'⟩:=hHm
   have pre:Pre G R w env a Hm:=⟨ok,x.gok c.ok.b01 c.g,hE,hle⟩
   have hplaced:Zas R.H [] (t.len j) (t.NW j) (ZjR t (upd D j) K):=fun i=>by rw[stg i,hH];rfl
   refine .inl ((ZBD pre c.cf k3 hop' free hplaced).wp fun u w' hpost=>?_)
   obtain⟨R',x',ok',hH',hv,hM'⟩:=hpost
   exact fin K R' u w' hK hKd' hKn' x' ok' hH' (fun i h1 h2=>hM' i h1 (by omega)) hv
 ·
  have hjK:j=K:=by
   rcases Nat.lt_trichotomy j K with h | h | h
   ·rw[hKd j p hp h hc] at hDj;cases hDj
   ·exact h
   ·obtain⟨q,g1,g2,g3⟩:=hKn (by omega)
    rcases hk.order g1 hp g2 (by omega) with f | f | f
    ·omega
    ·rw[down K f.2] at g3;cases g3
    ·omega
  subst hjK
  have below:∀m q,l[m]? = some q→m<j→2≤ZaV q→D m=true:=fun m q hq hm h2=>by
   rcases hk.order hp hq hc h2 with f | f | f
   ·omega
   ·omega
   ·exact down m f.2
  have above:∀m q,l[m]? = some q→j<m→2≤ZaV q→D m=false:=fun m q hq hm h2=>by
   cases hd:D m with
   | false=>rfl
   | true=>
    rcases hk.order hp hq hc h2 with f | f | f
    ·omega
    ·have:=downD j m (List.getElem?_eq_some_iff.1 hq).1 hd f.2
     rw[hDj] at this;cases this
    ·omega
  have full:ZjR t D j=t.HH j:=by
   apply List.ext_getElem?
   intro i
   refine Zhy (Zk9.2 fun m hm h3 h4=>?_)
   have hq:l[m]? = some (l[m]'(by omega)):=List.getElem?_eq_getElem (by omega)
   exact below m _ hq hm (ht.new2 hq ⟨h3,h4⟩)
  rw[full] at hH
  have go:∀(R':RP) (u:Value) (w':World),Ext R w R' w'→R'.OK w'→R'.H=t.HH (j+1)→(∀i,R.M i=none→¬(t.len j≤i∧i<t.len (j+1))→R'.M i=none)→Zbd R' w' (t.VV j) u→ZyH P N t l os e H Rf wf (upd D j) (a.put o.dst u) w':=by
   intro R' u w' x' ok' hH' hM' hv
   obtain⟨K',g1,g2,g3,g4,g5⟩:=ZzD ht (D:=upd D j) (s:=j+1) (by omega) ok' hH' (fun m q hq hm h2=>by
    unfold upd
    by_cases hmj:m=j
    ·rw[if_pos hmj]
    ·rw[if_neg hmj];exact below m q hq (by omega) h2) (fun m q hq hm h2=>by
    unfold upd;rw[if_neg (by omega)];exact above m q hq (by omega) h2)
   exact fin K' _ u w' g1 g2 g3 (x'.trans g4) g5 rfl hM' (g4.denV ok'.b01 _ _ hv)
  unfold wpOp
  simp only[ho]
  cases hw:t.W j with
  | false=>
   rw[hw] at hwant
   rw[hwant]
   simp only[Bool.false_eq_true,if_false]
   obtain⟨n1,n2,n3⟩:=ht.n j p hp hw
   refine go R undef w (Ext.refl R w) ok ?_ (fun i h _=>h) (by rw[n1];exact ZrV)
   rw[hH,ht.h j p hp,n2,n3];simp[ZeX]
  | true=>
   rw[hw] at hwant
   rw[hwant]
   simp only[if_true]
   obtain⟨y1,y2⟩:=ht.y j p hp hw
   rw[hk.mask j p hp hc] at y1
   have pre:Pre G R w env a (t.HH j):=⟨ok,x.gok c.ok.b01 c.g,hE,fun b blk hb _=>by rw[hH];exact hb⟩
   have hplaced:Zas R.H (t.UP j) (t.len j) (t.NW j) (t.HH (j+1)):=by
    rw[hH,ht.h j p hp];exact ZsR _ _ _
   refine .inl ((ZBD pre c.cf k3 (by rw[hop];exact y1) free hplaced).wp fun u w' hpost=>?_)
   obtain⟨R',x',ok',hH',hv,hM'⟩:=hpost
   exact go R' u w' x' ok' hH' (fun i h1 h2=>hM' i h1 (by omega)) hv
theorem ZtJ {p q:Nat→Bool}:∀(l:List Nat) (j:Nat),(∀x,q x=true→p x=true)→j∈l→p j=true→q j=false→l.countP q<l.countP p
 | [],j,_,h,_,_=>by cases h
 | x :: l,j,hq,h,h1,h2=>by
  have mono:∀l:List Nat,l.countP q≤l.countP p:=fun l=>List.countP_mono_left fun x _ h=>hq x h
  rw[List.countP_cons,List.countP_cons]
  by_cases hx:x=j
  ·subst hx
   have:=mono l
   rw[h1,h2];simp;omega
  ·have:=ZtJ l j hq ((List.mem_cons.1 h).resolve_left (fun h=>hx h.symm)) h1 h2
   cases hqx:q x with
   | true=>rw[hq x hqx];simp;omega
   | false=>cases hpx:p x<;>simp<;>omega
theorem ZzF (c:Zpx P G cf Rf wf) (hlo:Rf.H.length≤H.length) (ht:t.OK Γ cf [] l e H e' H') (hk:Chk P G N os l B) {Q:Exit→Act→World→Prop} (hQ:∀D a w,(∀j,j<l.length→D j=true)→ZyH P N t l os e H Rf wf D a w→Q .normal a w) :
  ∀(fuel:Nat) (listed:Array Bool) (a:Act) (w:World),listed.size=os.size→ZyH P N t l os e H Rf wf (fun j=>listed.getD j false) a w→(List.range os.size).countP (fun j=>!listed.getD j false)≤fuel→wpAny P .any os Q fuel listed a w:=by
 have full:∀(listed:Array Bool),listed.size=os.size→(Region.ready .any os listed=[])→∀j,j<l.length→listed.getD j false=true:=by
  intro listed hsz hr j
  induction j using Nat.strongRecOn with
  | ind j ih=>
   intro hj
   have hjs:j<os.size:=by rw[hk.len];exact hj
   cases hd:listed.getD j false with
   | true=>rfl
   | false=>
    have:j∈Region.ready .any os listed:=by
     rw[mem_ready]
     refine⟨?_,os[j],Array.getElem?_eq_getElem hjs,fun ed he hb=>?_⟩
     ·simp only[Array.getD_eq_getD_getElem?] at hd ⊢
      rw[Array.getElem?_eq_getElem (by omega)] at hd ⊢;exact hd
     ·have hlt:=hk.pre j _ (Array.getElem?_eq_getElem hjs) ed.on (by
       unfold Zp3
       exact List.mem_map.2 ⟨ed,List.mem_filter.2 ⟨by simpa using he,hb⟩,rfl⟩)
      exact ih ed.on hlt (by omega)
    rw[hr] at this;cases this
 intro fuel
 induction fuel with
 | zero=>
  intro listed a w hsz s hc
  have hall:∀j,j<l.length→listed.getD j false=true:=fun j hj=>by
   cases hd:listed.getD j false with
   | true=>rfl
   | false=>
    have h1:0<(List.range os.size).countP (fun j=>!listed.getD j false):=List.countP_pos_iff.2 ⟨j,by simp[hk.len,hj],by simp only[hd];rfl⟩
    omega
  refine⟨?_,hQ _ a w hall s⟩
  apply List.eq_nil_iff_forall_not_mem.2
  intro j hj
  obtain⟨h1,o,h2,_⟩:=mem_ready.1 hj
  have hjs:=(Array.getElem?_eq_some_iff.1 h2).1
  have:=hall j (by rw[← hk.len];exact hjs)
  simp only[Array.getD_eq_getD_getElem?] at h1 this
  rw[Array.getElem?_eq_getElem (by omega)] at h1 this
  simp at h1 this;rw[h1] at this;cases this
 | succ fuel ih=>
  intro listed a w hsz s hc
  refine⟨fun hr=>hQ _ a w (full listed hsz hr) s,fun j hj=>?_⟩
  obtain⟨h1,o,h2,h3⟩:=mem_ready.1 hj
  have hjs:=(Array.getElem?_eq_some_iff.1 h2).1
  have hd:listed.getD j false=false:=by
   simp only[Array.getD_eq_getD_getElem?] at h1 ⊢
   rw[Array.getElem?_eq_getElem (by omega)] at h1 ⊢;exact h1
  have hup:upd (fun j=>listed.getD j false) j=fun k=>(listed.setIfInBounds j true).getD k false:=by
   funext k
   unfold upd
   by_cases hkj:k=j
   ·subst hkj
    rw[if_pos rfl]
    simp[Array.getD_eq_getD_getElem?,hsz,hjs]
   ·rw[if_neg hkj,getD_set_ne false (fun h=>hkj h.symm)]
  refine wpOp_mono (fun a' w' s'=>ih _ a' w' (by simp[hsz]) s' ?_) (hup ▸ step c hlo ht hk s h2 hd fun i hi=>?_)
  ·have:=ZtJ (p:=fun j=>!listed.getD j false) (q:=fun k=>!(listed.setIfInBounds j true).getD k false) (List.range os.size) j (fun k hk'=>by
    by_cases hkj:j=k
    ·subst hkj;simp only[hd];rfl
    ·rw[getD_set_ne false hkj] at hk';exact hk') (by simp[hjs]) (by simp only[hd];rfl) (by simp[Array.getD_eq_getD_getElem?,hsz,hjs])
   omega
  ·unfold Zp3 at hi
   obtain⟨ed,f1,rfl⟩:=List.mem_map.1 hi
   obtain⟨f2,f3⟩:=List.mem_filter.1 f1
   exact h3 ed (by simpa using f2) f3
end
theorem ZCU {P:Program}{G:ZbH}{N:Nat}{Γ:Ctx}{cf:Zbs}:ZsD P G N Γ cf (ZD P G N):=by
 intro id os l Rf wf e H e' H' a w hok hd c s
 obtain⟨B,hk⟩:=Zw1 hok
 obtain⟨t,ht⟩:=ZrQ l [] e H e' H' hd
 obtain⟨R,x,ok,hH,hM,hE⟩:=s.ex
 refine wp_region_any hk.mixed ?_
 have xd:Ext R w R { w with drawn:=w.drawn+1 }:=Ext.draw rfl rfl rfl rfl
 have okd:R.OK { w with drawn:=w.drawn+1 }:=ok.draw rfl rfl rfl rfl
 refine ZzF c s.hl ht hk (fun D a' w' hall s'=>?_) os.size _ a _ (by simp) ?_ ?_
 ·obtain⟨K,R',env,h1,h2,h3,x',ok',hH',hM',hE',hV,hO⟩:=s'.ex
  have hKl:K=l.length:=by
   rcases Nat.lt_or_ge K l.length with h | h
   ·obtain⟨_,_,_,h4⟩:=h3 h
    rw[hall K h] at h4;cases h4
   ·omega
  subst hKl
  have hHe:ZjR t D l.length=H':=by
   rw[← ht.h1]
   apply List.ext_getElem?
   intro i
   exact Zhy (Zk9.2 fun m hm _ _=>hall m hm)
  have hle:H.length≤H'.length:=by
   have:=ht.len_mono (a:=0) l.length (by omega) (Nat.le_refl _)
   unfold ZcU.len at this;rw[ht.h0,ht.h1] at this;exact this
  have henv:∀d,env d=e' d:=fun d=>by
   rw[← ht.e1]
   by_cases hx:∃(i:Nat) (q:Op1),l[i]? = some q∧q.dst=some d
   ·obtain⟨i,q,hq,hqd⟩:=hx
    have hi:=(List.getElem?_eq_some_iff.1 hq).1
    rw[hV i q d hq hqd (hall i hi),ht.envd hk hq hqd l.length hi (Nat.le_refl _)]
   ·have hn:∀(i:Nat) (q:Op1),l[i]? = some q→q.dst≠some d:=fun i q hq hqd=>hx ⟨i,q,hq,hqd⟩
    rw[hO d fun i q hq hqd=>absurd hqd (hn i q hq),ht.env0 l.length (Nat.le_refl _) fun i q _ hq=>hn i q hq]
  refine⟨rfl,⟨⟨R',x',ok',by rw[hH',hHe],fun i hi=>hM' i (by omega) fun j hj _ hb=>?_,fun d=>by rw[← henv d];exact hE' d⟩,s'.tm,s'.df,by have:=s.hl;omega⟩⟩
  have:=ht.len_mono (a:=j+1) l.length (by omega) (Nat.le_refl _)
  have h2:t.len l.length=H'.length:=by unfold ZcU.len;rw[ht.h1]
  omega
 ·have hf:∀j,(Array.replicate os.size false).getD j false=false:=fun j=>by
   by_cases hj:j<os.size<;>simp[Array.getD_eq_getD_getElem?,hj]
  obtain⟨K,g1,g2,g3,g4,g5⟩:=ZzD ht (D:=fun j=>(Array.replicate os.size false).getD j false) (s:=0) (Nat.zero_le _) okd (by rw[ht.h0];exact hH) (fun m p _ hm=>by omega) (fun m p _ _ _=>hf m)
  refine⟨fun j o _ hd=>(by rw[hf j] at hd;cases hd),⟨K,_,e,g1,g2,g3,(x.trans xd).trans g4,g5,rfl,fun i hi _=>hM i hi,g4.envOK okd.b01 (xd.envOK ok.b01 hE),fun j p d _ _ hd=>(by rw[hf j] at hd;cases hd),fun d _=>rfl⟩,s.tm,s.df⟩
 ·exact Nat.le_trans List.countP_le_length (by simp)
theorem ZzA {P:Program}{G:ZbH}{Γ:Ctx} (hall:∀f fn,Γ.code f=some fn→Zab P G (fun N=>ZD P G N) f fn=true∨Zp5 P f fn):ZgX P G (evW Γ):=
 ZD3 (fun _ _ _=>ZCU) hall
end Go.Proofs.YtnmbdjkbaihicaaGreatDoorE
namespace Go.Proofs.YtnmbdjkbaihicaaGreatDoor.Last
open Go Go.RowKit Go.Shelf Go.Proofs.YtnmbdjkbaihicaaGreatDoorE
attribute [local go_sem] Oper.semAt_some
def upto {α:Type} (f:Nat→α) (k:Nat):List α:=(List.range k).map f
theorem Zb0 {α:Type} (f:Nat→α) (k:Nat):upto f (k+1)=upto f k++[f k]:=by simp[upto,List.range_succ]
theorem ZvW {α:Type} (f:Nat→α) (k:Nat):(upto f k).length=k:=by simp[upto]
def Kp (n₀ Bs:Nat) (A B:World):Prop:=Below n₀ A B∧B.heap[Bs]? = A.heap[Bs]?
theorem Kp.trans {n₀ Bs:Nat}{A B C:World} (h:Kp n₀ Bs A B) (k:Kp n₀ Bs B C):Kp n₀ Bs A C:=⟨h.1.trans k.1,k.2.trans h.2⟩
theorem Kp.refl (n₀ Bs:Nat) (A:World):Kp n₀ Bs A A:=⟨Below.refl _ _,rfl⟩
theorem Kp.cellB {n₀ Bs o:Nat}{A B:World} (h:Kp n₀ Bs A B):B.cell? ⟨Bs,o,none⟩=A.cell? ⟨Bs,o,none⟩:=by
 unfold World.cell?
 rw[h.2]
def rnd (zs:List (Int×Int)) (len k:Nat):Nat×(Int×Int):=(len-1-k,pc zs (len-1-k))
theorem ZBw (F:Fence) (n:Nat) (h8:F.fn 84) (hro:F.round=none) (hn:1≤n) (l Bs n₀ b off len cap:Nat) (zs:List (Int×Int)) (hreach:len≤1073741824) (hb:b<n₀) (J Jx:List (Nat×(Int×Int))→World→Prop)
  (hY:∀pre x W,J pre W→pre.length<len→YieldAt F (n-1) Tryz.prog l #[.int .i64 (x.1:Int),.agg #[.int .i64 x.2.1,.int .i64 x.2.2]] W fun e W'=>
   (e = .returned (.bool true)∧J (pre++[x]) W'∧Kp n₀ Bs W W')∨(e = .returned (.bool false)∧Jx (pre++[x]) W'))
  (W:World) (hBs:W.cell? ⟨Bs,0,none⟩=some (.slice (some ⟨b,off,none⟩) len cap)) (hc:∀j,j<len→W.cell? ⟨b,off+j*2,none⟩=some (.int .i64 (pc zs j).1)∧W.cell? ⟨b,off+j*2+1,none⟩=some (.int .i64 (pc zs j).2)) (h0:J [] W) :
  CallsIn F n Tryz.prog 84 #[.func (.yield l) #[] #[],.pointer (some ⟨Bs,0,none⟩)] W fun e W'=>(∃v,e = .returned v) ∧
   ((∃ys,ys=upto (rnd zs len) len∧J ys W')∨(∃pre,(∃k,k≤len∧pre=upto (rnd zs len) k)∧Jx pre W')):=by
 refine callsIn_of_wp Tryz.func84 rfl h8 ?_ hro
 simp only[Tryz.ntmps84,List.size_toArray,List.length_cons,List.length_nil,Nat.reduceAdd,Nat.reduceSub,Array.replicate_succ,Array.replicate_zero,List.push_toArray,List.append_toArray,List.nil_append,List.cons_append]
 gi_wp2
 gi_loopw [3] (fun i wr=>∃k:Nat,k≤len∧i = .int .i64 ((len:Int)-1-k)∧J (upto (rnd zs len) k) wr∧Kp n₀ Bs W wr)
  (fun i _=>(intOf i+1).toNat)
 case atStart=>
  refine⟨0,Nat.zero_le _,?_,h0,Kp.refl _ _ _⟩
  simp
 case round=>
  obtain⟨k,hk,rfl,hJs,hnx⟩:=hrel
  have hcx:k<len→wr.cell? ⟨b,off+(len-1-k)*2,none⟩=some (.int .i64 (pc zs (len-1-k)).1)∧wr.cell? ⟨b,off+(len-1-k)*2+1,none⟩=some (.int .i64 (pc zs (len-1-k)).2):=fun h=>⟨(hnx.1.cell (p:=⟨b,off+(len-1-k)*2,none⟩) hb).trans (hc _ (by omega)).1,(hnx.1.cell (p:=⟨b,off+(len-1-k)*2+1,none⟩) hb).trans (hc _ (by omega)).2⟩
  by_cases hlt:k<len
  ·obtain⟨fn,tmps,assign,body,hy,hR⟩:=hY _ (rnd zs len k) wr hJs (by rw[ZvW];exact hlt)
   dsimp only[rnd] at hy
   obtain⟨hcx1,hcx2⟩:=hcx hlt
   obtain⟨m,hm⟩:∃m:Nat,len-1-k=m:=⟨_,rfl⟩
   rw[hm] at hy hcx1 hcx2
   rw[show(len:Int)-1-k=(m:Int) by omega]
   have hBw:=hnx.cellB.trans hBs
   gi_wp2
   refine hR.mono ?_
   rintro e W3 (⟨rfl,hJ3,hk3⟩ | ⟨rfl,hJx3⟩)
   ·gi_wp2
    go_roundw
    case rel=>exact⟨k+1,by omega,by congr 1;omega,by rw[Zb0];exact hJ3,hnx.trans hk3⟩
    case measure=>simp[intOf]
   ·gi_wp2
    refine bodyPost_ret (results_none rfl _ _ _) rfl ?_
    exact⟨⟨_,rfl⟩,.inr ⟨_,⟨k+1,by omega,(Zb0 _ _).symm⟩,hJx3⟩⟩
  ·obtain rfl:k=len:=by omega
   rw[show(k:Int)-1-k = -1 by omega]
   gi_wp2
   go_end0
   exact⟨⟨_,rfl⟩,.inl ⟨_,rfl,hJs⟩⟩
theorem Zzy (F:Fence) (n:Nat) (h8:F.fn 84) (hro:F.round=none) (l Bs cap:Nat) (a:Option Addr) (J:List (Nat×(Int×Int))→World→Prop) (W:World) (hBs:W.cell? ⟨Bs,0,none⟩=some (.slice a 0 cap)) (h0:J [] W) :
  CallsIn F n Tryz.prog 84 #[.func (.yield l) #[] #[],.pointer (some ⟨Bs,0,none⟩)] W fun e W'=>(∃v,e = .returned v)∧J [] W':=by
 refine callsIn_of_wp Tryz.func84 rfl h8 ?_ hro
 simp only[Tryz.ntmps84,List.size_toArray,List.length_cons,List.length_nil,Nat.reduceAdd,Nat.reduceSub,Array.replicate_succ,Array.replicate_zero,List.push_toArray,List.append_toArray,List.nil_append,List.cons_append]
 gi_wp2
 gi_loopw [3] (fun i wr=>i = .int .i64 (-1)∧J [] wr) (fun _ _=>0)
 case atStart=>exact⟨by simp,h0⟩
 case round=>
  obtain⟨rfl,hJs⟩:=hrel
  gi_wp2
  go_end0
  exact⟨⟨_,rfl⟩,hJs⟩
theorem ZIN {n₀ Bs:Nat}{w:World} (h1:n₀≤w.heap.size) (h2:Bs<w.heap.size):∀(W:World) (l:Nat) (o o':Obj),w.heap.size≤l→W.heap[l]? = some o→o.isCells=false→o.isWalk=false→Kp n₀ Bs W (W.putObj l o'):=fun W l o o' hl ho hc hw=>
 ⟨belowK_b (w:=w) h1 W l o o' hl ho hc hw,(belowK_b (w:=w) (Nat.le_refl _) W l o o' hl ho hc hw).block _ h2⟩
def Pcs (n₀:Nat) (W:World) (sv:Value) (zs:List (Int×Int)):Prop:=
 (∃a cap,sv = .slice a 0 cap∧zs=[])∨∃b off cap,sv = .slice (some ⟨b,off,none⟩) zs.length cap∧b<n₀∧∀j,j<zs.length→W.cell? ⟨b,off+j*2,none⟩=some (.int .i64 (pc zs j).1)∧W.cell? ⟨b,off+j*2+1,none⟩=some (.int .i64 (pc zs j).2)
theorem Pcs.below {n₀:Nat}{A B:World} (h:Below n₀ A B) {sv:Value}{zs:List (Int×Int)}:Pcs n₀ A sv zs→Pcs n₀ B sv zs
 | .inl e=>.inl e
 | .inr ⟨b,off,cap,e,hb,hc⟩=>.inr ⟨b,off,cap,e,hb,fun j hj=>⟨(h.cell (p:=⟨b,off+j*2,none⟩) hb).trans (hc j hj).1,(h.cell (p:=⟨b,off+j*2+1,none⟩) hb).trans (hc j hj).2⟩⟩
theorem ZCZ (F:Fence) (n:Nat) (h5:F.fn 48) (hro:F.round=none) (sv:Value) (w:World) (hs:∃a len cap,sv = .slice a len cap) :
  CallsIn F n Tryz.prog 48 #[sv] w fun e w'=>e = .returned (.func (.func 84) #[] #[.pointer (some ⟨w.heap.size,0,none⟩)])∧w'=w.alloc (.cells #[sv] 54):=by
 obtain⟨a,len,cap,rfl⟩:=hs
 refine callsIn_of_wp Tryz.func48 rfl h5 ?_ hro
 simp only[Tryz.ntmps48,List.size_toArray,List.length_cons,List.length_nil,Nat.reduceAdd,Nat.reduceSub,Array.replicate_succ,Array.replicate_zero,List.push_toArray,List.append_toArray,List.nil_append,List.cons_append]
 gi_wp2
 go_ret
 exact⟨rfl,rfl⟩
theorem Zwe (F:Fence) (n:Nat) (h8:F.fn 84) (hro:F.round=none) (hn:1≤n) (Bs n₀:Nat) (sv:Value) (zs:List (Int×Int)) (hreach:zs.length≤1073741824) (w:World) (hBs:Bs<w.heap.size) (hn₀:n₀≤w.heap.size)
  (hc:w.cell? ⟨Bs,0,none⟩=some sv) (hI:Pcs n₀ w sv zs) :
  SeqStopsK F n Tryz.prog 84 #[.pointer (some ⟨Bs,0,none⟩)] (fun x:Nat×(Int×Int)=>#[Value.int .i64 (x.1:Int),.agg #[.int .i64 x.2.1,.int .i64 x.2.2]]) (Kp n₀ Bs) (fun ys=>ys=upto (rnd zs zs.length) zs.length)
   (fun pre=>∃k,k≤zs.length∧pre=upto (rnd zs zs.length) k) zs.length w:=fun l J Jx W hW _ _ hY h0=>by
 have hc':=(hW.cell (p:=⟨Bs,0,none⟩) hBs).trans hc
 rcases hI.below (hW.mono hn₀) with⟨a,cap,rfl,rfl⟩ | ⟨b,off,cap,rfl,hb,hcs⟩
 ·exact(Zzy F n h8 hro l Bs cap a J W hc' h0).mono fun e W' ⟨he,hj⟩=>⟨he,.inl ⟨_,rfl,hj⟩⟩
 ·exact ZBw F n h8 hro hn l Bs n₀ b off zs.length cap zs hreach hb J Jx hY W hc' hcs h0
theorem Zwv {n:Nat}{P:Program}{Q:Exit→Act→World→Prop}{a:Act}{w:World}{c:Code} (h:c.wpIn Fence.wide n P (Exit.noGoto Q) a w):(Code.scope c).wpIn Fence.wide n P Q a w:=wpIn_wide.2 (wp_scope_straight (wpIn_wide.1 h))
theorem Zn5 (zs:List (Int×Int)) (p:Int):∀n:Nat,(∀j,j<n→(pc zs j).1≠p∨p<0)→Zfx zs p n = -1
 | 0,_=>rfl
 | n+1,h=>by
  unfold Zfx
  have:((pc zs n).1 != p || decide (p<0))=true:=by
   rcases h n (by omega) with h | h
   ·simp[bne_iff_ne.2 h]
   ·simp[h]
  rw[this]
  exact Zn5 zs p n fun j hj=>h j (by omega)
theorem Zn0 (zs:List (Int×Int)) (p:Int):∀(n k:Nat),k<n→(pc zs k).1=p→0≤p→(∀j,k<j→j<n→(pc zs j).1≠p∨p<0)→Zfx zs p n=(k:Int)
 | 0,_,h,_,_,_=>by omega
 | n+1,k,h,h1,h2,h3=>by
  unfold Zfx
  by_cases hk:k=n
  ·subst hk
   have:((pc zs k).1 != p || decide (p<0))=false:=by simp[h1];exact h2
   rw[this];rfl
  ·have:((pc zs n).1 != p || decide (p<0))=true:=by
    rcases h3 n (by omega) (by omega) with h | h
    ·simp[bne_iff_ne.2 h]
    ·simp[h]
   rw[this]
   exact Zn0 zs p n k (by omega) h1 h2 fun j a b=>h3 j a (by omega)
theorem Zrk (u0 u1 sv:Value) (p:Int) (zs:List (Int×Int)) (hreach:zs.length≤1073741824) (w:World)
  (hs:∃a len cap,sv = .slice a len cap) (hI:Pcs w.heap.size w sv zs) :
  CallsIn Fence.wide 5 Tryz.prog 25 #[.agg #[u0,u1,sv],.int .i64 p] w fun e W'=>e = .returned (.int .i64 (Zfx zs p zs.length))∧Below w.heap.size w W':=by
 obtain⟨a,len,cap,rfl⟩:=hs
 refine callsIn_of_wp_marks Tryz.func25 rfl trivial ?_ rfl
 simp only[Tryz.ntmps25,List.size_toArray,List.length_cons,List.length_nil,Nat.reduceAdd,Nat.reduceSub,Array.replicate_succ,Array.replicate_zero,List.push_toArray,List.append_toArray,List.nil_append,List.cons_append]
 gi_wp2
 refine Zwv ?_
 gi_wp2
 rename_i K hK
 refine wpIn_label (hK _ _ ?_)
 clear hK K
 gi_wp2
 refine⟨trivial,(ZCZ Fence.wide 4 trivial rfl _ _ ⟨_,_,_,rfl⟩).mono ?_⟩
 rintro e w' ⟨rfl,rfl⟩
 gi_wp2
 have bP:=(((Boxed.new (w.alloc (.cells #[u0,u1,.slice a len cap] 56)) 3 (.int .i64 p)).alloc (.cells #[.int .i64 (-1)] 3)).alloc (.cells #[.slice a len cap] 54))
 have bA:=(Boxed.new ((w.alloc (.cells #[u0,u1,.slice a len cap] 56)).alloc (.cells #[.int .i64 p] 3)) 3 (.int .i64 (-1))).alloc (.cells #[.slice a len cap] 54)
 have bN:=Boxed.new (((w.alloc (.cells #[u0,u1,.slice a len cap] 56)).alloc (.cells #[.int .i64 p] 3)).alloc (.cells #[.int .i64 (-1)] 3)) 54 (.slice a len cap)
 simp only[World.size_alloc] at bP bA bN
 have hB0:Below w.heap.size w ((((w.alloc (.cells #[u0,u1,.slice a len cap] 56)).alloc (.cells #[.int .i64 p] 3)).alloc (.cells #[.int .i64 (-1)] 3)).alloc (.cells #[.slice a len cap] 54)):=((((Below.refl _ w).alloc (Nat.le_refl _) _).alloc (by simp) _).alloc (by simp;omega) _).alloc (by simp;omega) _
 have hsz:((((w.alloc (.cells #[u0,u1,.slice a len cap] 56)).alloc (.cells #[.int .i64 p] 3)).alloc (.cells #[.int .i64 (-1)] 3)).alloc (.cells #[.slice a len cap] 54)).heap.size=w.heap.size+4:=by simp
 obtain⟨W0,hW0⟩:∃W0,(((w.alloc (.cells #[u0,u1,.slice a len cap] 56)).alloc (.cells #[.int .i64 p] 3)).alloc (.cells #[.int .i64 (-1)] 3)).alloc (.cells #[.slice a len cap] 54)=W0:=⟨_,rfl⟩
 rw[hW0] at bP bA bN hB0 hsz ⊢
 clear hW0
 refine wpIn_rangeFunc_ownH rfl (by omega) (gf:=84) (lb:=#[.pointer (some ⟨w.heap.size+1+1+1,0,none⟩)]) rfl trivial (enters_of Tryz.func84 (by kernel_rfl) rfl)
  (Zwe Fence.wide 4 trivial rfl (by omega) (w.heap.size+1+1+1) w.heap.size _ zs hreach W0 (by omega) (by omega) bN.cell (hI.below hB0)) Kp.trans (ZIN (by omega) (by omega)) (Below.refl _ _) (fun _=>rfl)
  (fun pre W=>((Boxed W (w.heap.size+1) 3 (.int .i64 p)∧Boxed W (w.heap.size+1+1) 3 (.int .i64 (-1)))∧Boxed W (w.heap.size+1+1+1) 54 (.slice a len cap)∧(∀x∈pre,x.2.1≠p∨p<0))∧Below w.heap.size w W)
  (fun c pre W=>(c = .exit 0∧∃ini lst,pre=ini++[lst]∧(∀x∈ini,x.2.1≠p∨p<0)∧(lst.2.1=p∧0≤p)∧Boxed W (w.heap.size+1+1) 3 (.int .i64 (lst.1:Int)))∧Below w.heap.size w W)
  (OwnFrom.and (OwnFrom.and (OwnFrom.and (Own.from (boxed_own _ _ _) _) (Own.from (boxed_own _ _ _) _)) (OwnFrom.and (Own.from (boxed_own _ _ _) _) (ownFrom_pure _ _))) (ownFrom_below (Nat.le_refl _) (by omega)))
  (fun c=>OwnFrom.and (Own.from (fun s A B row hs hg hr=>by obtain⟨hc,ini,lst,e1,e2,e3,e4⟩:=hs;exact⟨hc,ini,lst,e1,e2,e3,boxed_own (w.heap.size+1+1) 3 (fun(_:Unit)=>Value.int .i64 (lst.1:Int)) () A B row e4 hg hr⟩) _) (ownFrom_below (Nat.le_refl _) (by omega)))
  ⟨⟨⟨bP,bA⟩,bN,by simp⟩,hB0⟩
  (fun x a' W=>∃Bx,W.cell? ⟨Bx,0,none⟩=some (.int .i64 x.2.1)∧a'={ tmps:=#[.agg #[u0,u1,.slice a len cap],.int .i64 p,.pointer (some ⟨w.heap.size,0,none⟩),.pointer (some ⟨w.heap.size+1,0,none⟩),.int .i64 0,.pointer (some ⟨w.heap.size+1+1,0,none⟩),.int .i64 (x.1:Int),.pointer (some ⟨Bx,0,none⟩),.pointer (some ⟨w.heap.size,2,none⟩),.slice a len cap,.func (.func 84) #[] #[.pointer (some ⟨w.heap.size+1+1+1,0,none⟩)],.int .i64 (x.1:Int),.agg #[.int .i64 x.2.1,.int .i64 x.2.2],undef,undef,undef,undef,undef,undef,undef,undef,undef,undef,undef],defers:=[] })
  (fun x a' _ X Y row hs hg hr=>by obtain⟨Bx,h1,h2⟩:=hs;exact⟨Bx,cell_kept h1 hg (fun r e=>(hr r e).2),h2⟩)
  ?assign ?body ?done ?ZiI
 case assign=>
  rintro l pre x W K ⟨⟨⟨bP1,bA1⟩,bN1,hp1⟩,hB1⟩ hK
  gi_wp2
  refine hK _ _ ((KeepsOthers.alloc _ _).from _) ⟨(Below.refl _ W).alloc hB1.size _,?_⟩ ⟨⟨⟨bP1.alloc _,bA1.alloc _⟩,bN1.alloc _,hp1⟩,hB1.alloc hB1.size _⟩ ⟨W.heap.size,?_,rfl⟩
  ·exact(bN1.alloc _).trans bN1.symm
  ·show(match (W.alloc (.cells #[.int .i64 x.2.1,.int .i64 x.2.2] 89)).heap[W.heap.size]? with | some (.cells c _ _)=>_ | _=>none)=_
   rw[World.alloc_heap_new]
   rfl
 case body=>
  rintro l pre x a' W hl ⟨r,hr⟩ ⟨⟨⟨bP1,bA1⟩,bN1,hp1⟩,hB1⟩ ⟨Bx,hBx,rfl⟩ hlt
  have cP:=bP1.cell
  have cA:=bA1.cell
  have fA:=bA1.frozen
  gi_wp2
  ·have hx:p<0:=by assumption
   exact⟨KeepsFrom.refl _ _,Kp.refl _ _ _,⟨⟨⟨bP1,bA1⟩,bN1,fun y hy=>.inr hx⟩,hB1⟩⟩
  ·have hx:x.2.1=p:=by assumption
   have hp:0≤p:=by assumption
   exact⟨(KeepsOthers.setCell _ _ _).from _,⟨rfl,pre,x,rfl,hp1,⟨hx,hp⟩,bA1.set _⟩,hB1.setCell (p:=⟨w.heap.size+1+1,0,none⟩) (by simp;omega) _⟩
  ·have hx:¬x.2.1=p:=by assumption
   exact⟨KeepsFrom.refl _ _,Kp.refl _ _ _,⟨⟨⟨bP1,bA1⟩,bN1,fun y hy=>(List.mem_append.1 hy).elim (hp1 y) fun e=>by simp at e;subst e;exact .inl hx⟩,hB1⟩⟩
 case done=>
  rintro D ys W hD rfl ⟨⟨⟨bP1,bA1⟩,bN1,hp1⟩,hB1⟩ hK
  have cA:=bA1.cell
  gi_wp2
  refine⟨by simp,.inl ⟨_,_,rfl,run_takeDeferred hK,?_⟩⟩
  refine⟨_,results_tmp rfl _ _ _,?_,hB1.trans (belowK_b (w:=w) (Nat.le_refl _) W D _ _ (by omega) hK rfl rfl)⟩
  show Ending.returned (.int .i64 (-1))=_
  rw[Zn5 zs p zs.length fun j hj=>hp1 (rnd zs zs.length (zs.length-1-j)) (by simp only[upto,List.mem_map,List.mem_range];exact⟨zs.length-1-j,by omega,rfl⟩) |> fun h=>by unfold rnd at h;rwa [show zs.length-1-(zs.length-1-j)=j by omega] at h]
 case ZiI=>
  rintro D c pre W hD ⟨k,hk,rfl⟩ ⟨⟨rfl,ini,lst,e1,e2,e3,bA1⟩,hB1⟩ hK
  have cA:=bA1.cell
  gi_wp2
  refine⟨by simp,.inl ⟨_,_,rfl,run_takeDeferred hK,?_⟩⟩
  refine⟨_,results_tmp rfl _ _ _,?_,hB1.trans (belowK_b (w:=w) (Nat.le_refl _) W D _ _ (by omega) hK rfl rfl)⟩
  obtain⟨k',rfl⟩:∃k',k=k'+1:=by
   cases k with
   | zero=>simp[upto] at e1
   | succ k'=>exact⟨k',rfl⟩
  rw[Zb0] at e1
  obtain⟨rfl,e5⟩:=List.append_inj' e1 rfl
  obtain rfl:rnd zs zs.length k'=lst:=by simpa using e5
  show Ending.returned (.int .i64 ((zs.length-1-k':Nat):Int))=_
  rw[Zn0 zs p zs.length (zs.length-1-k') (by omega) e3.1 e3.2 fun j h1 h2=>e2 (rnd zs zs.length (zs.length-1-j)) (by simp only[upto,List.mem_map,List.mem_range];exact⟨zs.length-1-j,by omega,rfl⟩) |> fun h=>by unfold rnd at h;rwa [show zs.length-1-(zs.length-1-j)=j by omega] at h]
theorem ZBP {A1 A0 AL:Nat→Prop}{w:World}:∀(xs:List D) (zs:List (Int×Int)),ZuJ xs=some zs→∀(b sz off:Nat),Zf2 A1 A0 AL w b sz off xs→zs.length=xs.length∧(xs≠[]→sz=2)∧∀j,j<zs.length→w.cell? ⟨b,off+j*2,none⟩=some (.int .i64 (pc zs j).1)∧w.cell? ⟨b,off+j*2+1,none⟩=some (.int .i64 (pc zs j).2)
 | [],zs,h,b,sz,off,_=>by cases h;exact⟨rfl,fun h=>absurd rfl h,fun j hj=>absurd hj (by simp)⟩
 | x :: xs,zs,h,b,sz,off,hd=>by
  unfold ZuJ at h
  split at h
  ·cases h
   rename_i heq;cases heq
  ·rename_i p q r heq
   cases heq
   cases hr:ZuJ xs with
   | none=>rw[hr] at h;cases h
   | some l=>
    rw[hr] at h
    cases h
    obtain⟨⟨u,⟨us,rfl,u1,us1,rfl,rfl,u2,us2,rfl,rfl,rfl⟩,h2,h3⟩,h4⟩:=hd
    have hsz:sz=2:=by rw[← h2];rfl
    subst hsz
    obtain⟨i1,_,i3⟩:=ZBP xs l hr b 2 (off+2) h4
    refine⟨by simp[i1],fun _=>rfl,fun j hj=>?_⟩
    cases j with
    | zero=>exact⟨by simpa [pc] using h3 0 (.int .i64 p) rfl,by simpa [pc] using h3 1 (.int .i64 q) rfl⟩
    | succ j=>
     have:=i3 j (by simpa using hj)
     rw[show off+(j+1)*2=off+2+j*2 by omega]
     simpa [pc] using this
  ·cases h
theorem special:Zp5 Tryz.prog 25 (Zug 0):=by
 refine⟨by kernel_rfl,0,rfl,fun l r R w us hs ok hH hd=>?_⟩
 unfold ZlT at hs
 split at hs
 ·rename_i a b t xs p _
  obtain⟨u1,us1,rfl,⟨vs,rfl,v0,vs0,rfl,_,v1,vs1,rfl,_,v2,vs2,rfl,hv,rfl⟩,u2,us2,rfl,rfl,rfl⟩:=hd
  cases hz:ZuJ xs with
  | none=>rw[hz] at hs;cases hs
  | some zs=>
   rw[hz] at hs
   dsimp only at hs
   cases hb:Nat.ble zs.length lim with
   | false=>rw[hb] at hs;cases hs
   | true=>
    rw[hb] at hs
    cases hs
    obtain⟨ad,len,cap,rfl,rfl,hcap,_,hel⟩:=hv
    have hI:Pcs w.heap.size w (.slice ad xs.length cap) zs:=by
     by_cases hne:xs=[]
     ·subst hne;cases hz;exact .inl ⟨ad,cap,rfl,rfl⟩
     ·obtain⟨b,off,sz,rfl,_,hlt,hels⟩:=hel hne
      obtain⟨i1,_,i3⟩:=ZBP xs zs hz b sz off hels
      exact .inr ⟨b,off,cap,by rw[i1],hlt,i3⟩
    refine(callsIn_wide.1 (Zrk v0 v1 _ p zs (Nat.le_of_ble_eq_true hb) w ⟨_,_,_,rfl⟩ hI)).mono ?_
    rintro e w' ⟨he,hB⟩
    refine⟨_,he,rfl,⟨fun _ _ h=>h,fun i x blk _ h hd=>⟨blk,h,Blk.like_refl hd⟩,rfl,rfl,fun b hb _=>hB.block b hb,fun b cs el fr h=>⟨cs,el,fr,(hB.block b (Array.getElem?_eq_some_iff.1 h).1).trans h,rfl⟩,hB.size,fun _ _ h=>h,hB.os,hB.tape,hB.output⟩⟩
 ·cases hs
end Go.Proofs.YtnmbdjkbaihicaaGreatDoor.Last
namespace Go.Proofs.YtnmbdjkbaihicaaGreatDoor
open Go Go.Proofs.YtnmbdjkbaihicaaGreatDoorE
def ZDu:List (IntKind×Int):=[(.u8,0),(.u8,1),(.u8,28),(.u8,2),(.u8,29),(.u8,14),(.u8,24),(.u8,3),(.u8,30),(.u8,22),(.u8,20),(.u8,15),(.u8,25),(.u8,17),(.u8,4),(.u8,8),(.u8,31),(.u8,27),(.u8,13),(.u8,23),(.u8,21),(.u8,19),(.u8,16),(.u8,7),(.u8,26),(.u8,12),(.u8,18),(.u8,6),(.u8,11),(.u8,5),(.u8,10),(.u8,9)]
def ZDl:List (IntKind×Int):=[(.u8,0),(.u8,1),(.u8,56),(.u8,2),(.u8,57),(.u8,49),(.u8,28),(.u8,3),(.u8,61),(.u8,58),(.u8,42),(.u8,50),(.u8,38),(.u8,29),(.u8,17),(.u8,4),(.u8,62),(.u8,47),(.u8,59),(.u8,36),(.u8,45),(.u8,43),(.u8,51),(.u8,22),(.u8,53),(.u8,39),(.u8,33),(.u8,30),(.u8,24),(.u8,18),(.u8,12),(.u8,5),(.u8,63),(.u8,55),(.u8,48),(.u8,27),(.u8,60),(.u8,41),(.u8,37),(.u8,16),(.u8,46),(.u8,35),(.u8,44),(.u8,21),(.u8,52),(.u8,32),(.u8,23),(.u8,11),(.u8,54),(.u8,26),(.u8,40),(.u8,15),(.u8,34),(.u8,20),(.u8,31),(.u8,10),(.u8,25),(.u8,14),(.u8,19),(.u8,9),(.u8,13),(.u8,8),(.u8,7),(.u8,6)]
def Zq:ZbH
 | 0=>some ZDu
 | 1=>some ZDl
 | _=>none
theorem ok4:Zab Tryz.prog Zq (fun N=>ZD Tryz.prog Zq N) 4 fn4=true:=by kernel_rfl
theorem ok6:Zab Tryz.prog Zq (fun N=>ZD Tryz.prog Zq N) 6 fn6=true:=by kernel_rfl
theorem ok7:Zab Tryz.prog Zq (fun N=>ZD Tryz.prog Zq N) 7 fn7=true:=by kernel_rfl
theorem ok8:Zab Tryz.prog Zq (fun N=>ZD Tryz.prog Zq N) 8 fn8=true:=by kernel_rfl
theorem ok9:Zab Tryz.prog Zq (fun N=>ZD Tryz.prog Zq N) 9 fn9=true:=by kernel_rfl
theorem ZJr:Zab Tryz.prog Zq (fun N=>ZD Tryz.prog Zq N) 11 ZE4=true:=by kernel_rfl
theorem ZJF:Zab Tryz.prog Zq (fun N=>ZD Tryz.prog Zq N) 12 ZEj=true:=by kernel_rfl
theorem ZIm:Zab Tryz.prog Zq (fun N=>ZD Tryz.prog Zq N) 13 ZGE=true:=by kernel_rfl
theorem ZIR:Zab Tryz.prog Zq (fun N=>ZD Tryz.prog Zq N) 14 ZFh=true:=by kernel_rfl
theorem ZIt:Zab Tryz.prog Zq (fun N=>ZD Tryz.prog Zq N) 15 ZEY=true:=by kernel_rfl
theorem ZJR:Zab Tryz.prog Zq (fun N=>ZD Tryz.prog Zq N) 16 ZFe=true:=by kernel_rfl
theorem ZIC:Zab Tryz.prog Zq (fun N=>ZD Tryz.prog Zq N) 17 ZG8=true:=by kernel_rfl
theorem ZJw:Zab Tryz.prog Zq (fun N=>ZD Tryz.prog Zq N) 18 ZG2=true:=by kernel_rfl
theorem ZHi:Zab Tryz.prog Zq (fun N=>ZD Tryz.prog Zq N) 19 ZDI=true:=by kernel_rfl
theorem ZJL:Zab Tryz.prog Zq (fun N=>ZD Tryz.prog Zq N) 20 ZEo=true:=by kernel_rfl
theorem ZIg:Zab Tryz.prog Zq (fun N=>ZD Tryz.prog Zq N) 21 ZEX=true:=by kernel_rfl
theorem ZHj:Zab Tryz.prog Zq (fun N=>ZD Tryz.prog Zq N) 22 ZEz=true:=by kernel_rfl
theorem ZJO:Zab Tryz.prog Zq (fun N=>ZD Tryz.prog Zq N) 23 ZFd=true:=by kernel_rfl
theorem ZJP:Zab Tryz.prog Zq (fun N=>ZD Tryz.prog Zq N) 26 ZDR=true:=by kernel_rfl
theorem ZH7:Zab Tryz.prog Zq (fun N=>ZD Tryz.prog Zq N) 27 ZDM=true:=by kernel_rfl
theorem ZHR:Zab Tryz.prog Zq (fun N=>ZD Tryz.prog Zq N) 28 ZF2=true:=by kernel_rfl
theorem ZIu:Zab Tryz.prog Zq (fun N=>ZD Tryz.prog Zq N) 29 ZF5=true:=by kernel_rfl
theorem ZHk:Zab Tryz.prog Zq (fun N=>ZD Tryz.prog Zq N) 30 ZDY=true:=by kernel_rfl
theorem ZHl:Zab Tryz.prog Zq (fun N=>ZD Tryz.prog Zq N) 31 ZEk=true:=by kernel_rfl
theorem ZHW:Zab Tryz.prog Zq (fun N=>ZD Tryz.prog Zq N) 32 ZEd=true:=by kernel_rfl
theorem ZJJ:Zab Tryz.prog Zq (fun N=>ZD Tryz.prog Zq N) 33 ZE1=true:=by kernel_rfl
theorem ZHU:Zab Tryz.prog Zq (fun N=>ZD Tryz.prog Zq N) 34 ZEa=true:=by kernel_rfl
theorem ZHv:Zab Tryz.prog Zq (fun N=>ZD Tryz.prog Zq N) 35 ZEL=true:=by kernel_rfl
theorem ZHK:Zab Tryz.prog Zq (fun N=>ZD Tryz.prog Zq N) 36 ZE5=true:=by kernel_rfl
theorem ZIL:Zab Tryz.prog Zq (fun N=>ZD Tryz.prog Zq N) 37 ZGR=true:=by kernel_rfl
theorem ZHP:Zab Tryz.prog Zq (fun N=>ZD Tryz.prog Zq N) 38 ZFp=true:=by kernel_rfl
theorem ZI6:Zab Tryz.prog Zq (fun N=>ZD Tryz.prog Zq N) 39 ZDD=true:=by kernel_rfl
theorem ZHc:Zab Tryz.prog Zq (fun N=>ZD Tryz.prog Zq N) 40 ZDK=true:=by kernel_rfl
theorem ZHF:Zab Tryz.prog Zq (fun N=>ZD Tryz.prog Zq N) 41 ZEw=true:=by kernel_rfl
theorem ZJb:Zab Tryz.prog Zq (fun N=>ZD Tryz.prog Zq N) 42 ZFm=true:=by kernel_rfl
theorem ZJH:Zab Tryz.prog Zq (fun N=>ZD Tryz.prog Zq N) 43 ZED=true:=by kernel_rfl
theorem ZI4:Zab Tryz.prog Zq (fun N=>ZD Tryz.prog Zq N) 44 ZET=true:=by kernel_rfl
theorem ZHd:Zab Tryz.prog Zq (fun N=>ZD Tryz.prog Zq N) 45 ZEy=true:=by kernel_rfl
theorem ZHz:Zab Tryz.prog Zq (fun N=>ZD Tryz.prog Zq N) 47 ZDP=true:=by kernel_rfl
theorem ZJM:Zab Tryz.prog Zq (fun N=>ZD Tryz.prog Zq N) 48 ZGx=true:=by kernel_rfl
theorem ZHp:Zab Tryz.prog Zq (fun N=>ZD Tryz.prog Zq N) 49 ZFk=true:=by kernel_rfl
theorem ZJV:Zab Tryz.prog Zq (fun N=>ZD Tryz.prog Zq N) 50 ZFl=true:=by kernel_rfl
theorem ZIs:Zab Tryz.prog Zq (fun N=>ZD Tryz.prog Zq N) 51 ZGo=true:=by kernel_rfl
theorem ZJB:Zab Tryz.prog Zq (fun N=>ZD Tryz.prog Zq N) 52 ZG1=true:=by kernel_rfl
theorem ZHX:Zab Tryz.prog Zq (fun N=>ZD Tryz.prog Zq N) 53 ZG5=true:=by kernel_rfl
theorem ZIi:Zab Tryz.prog Zq (fun N=>ZD Tryz.prog Zq N) 54 ZEm=true:=by kernel_rfl
theorem ZJv:Zab Tryz.prog Zq (fun N=>ZD Tryz.prog Zq N) 55 ZD9=true:=by kernel_rfl
theorem ZJq:Zab Tryz.prog Zq (fun N=>ZD Tryz.prog Zq N) 56 ZEx=true:=by kernel_rfl
theorem ZJE:Zab Tryz.prog Zq (fun N=>ZD Tryz.prog Zq N) 57 ZE3=true:=by kernel_rfl
theorem ZJD:Zab Tryz.prog Zq (fun N=>ZD Tryz.prog Zq N) 58 ZD8=true:=by kernel_rfl
theorem ZJe:Zab Tryz.prog Zq (fun N=>ZD Tryz.prog Zq N) 59 ZDV=true:=by kernel_rfl
theorem ZH2:Zab Tryz.prog Zq (fun N=>ZD Tryz.prog Zq N) 60 ZDH=true:=by kernel_rfl
theorem ZJf:Zab Tryz.prog Zq (fun N=>ZD Tryz.prog Zq N) 61 ZEq=true:=by kernel_rfl
theorem ZJW:Zab Tryz.prog Zq (fun N=>ZD Tryz.prog Zq N) 62 ZEb=true:=by kernel_rfl
theorem ZIM:Zab Tryz.prog Zq (fun N=>ZD Tryz.prog Zq N) 63 ZEB=true:=by kernel_rfl
theorem ZHG:Zab Tryz.prog Zq (fun N=>ZD Tryz.prog Zq N) 64 ZEf=true:=by kernel_rfl
theorem ZIp:Zab Tryz.prog Zq (fun N=>ZD Tryz.prog Zq N) 65 ZFn=true:=by kernel_rfl
theorem ZIv:Zab Tryz.prog Zq (fun N=>ZD Tryz.prog Zq N) 66 ZEt=true:=by kernel_rfl
theorem ZJu:Zab Tryz.prog Zq (fun N=>ZD Tryz.prog Zq N) 67 ZEe=true:=by kernel_rfl
theorem ZJc:Zab Tryz.prog Zq (fun N=>ZD Tryz.prog Zq N) 68 ZDN=true:=by kernel_rfl
theorem ZJd:Zab Tryz.prog Zq (fun N=>ZD Tryz.prog Zq N) 69 ZE0=true:=by kernel_rfl
theorem ZH1:Zab Tryz.prog Zq (fun N=>ZD Tryz.prog Zq N) 70 ZES=true:=by kernel_rfl
theorem ZJK:Zab Tryz.prog Zq (fun N=>ZD Tryz.prog Zq N) 71 ZEC=true:=by kernel_rfl
theorem ZJx:Zab Tryz.prog Zq (fun N=>ZD Tryz.prog Zq N) 72 ZDE=true:=by kernel_rfl
theorem ZId:Zab Tryz.prog Zq (fun N=>ZD Tryz.prog Zq N) 73 ZDZ=true:=by kernel_rfl
theorem ZHZ:Zab Tryz.prog Zq (fun N=>ZD Tryz.prog Zq N) 74 ZEG=true:=by kernel_rfl
theorem ZIQ:Zab Tryz.prog Zq (fun N=>ZD Tryz.prog Zq N) 75 ZEh=true:=by kernel_rfl
theorem ZIK:Zab Tryz.prog Zq (fun N=>ZD Tryz.prog Zq N) 76 ZEg=true:=by kernel_rfl
theorem ZHt:Zab Tryz.prog Zq (fun N=>ZD Tryz.prog Zq N) 77 ZCc=true:=by kernel_rfl
theorem ZHQ:Zab Tryz.prog Zq (fun N=>ZD Tryz.prog Zq N) 78 ZFa=true:=by kernel_rfl
theorem ZID:Zab Tryz.prog Zq (fun N=>ZD Tryz.prog Zq N) 79 ZD1=true:=by kernel_rfl
theorem ZH3:Zab Tryz.prog Zq (fun N=>ZD Tryz.prog Zq N) 80 ZFc=true:=by kernel_rfl
theorem ZJy:Zab Tryz.prog Zq (fun N=>ZD Tryz.prog Zq N) 83 ZD0=true:=by kernel_rfl
theorem ZII:Zab Tryz.prog Zq (fun N=>ZD Tryz.prog Zq N) 84 ZGy=true:=by kernel_rfl
theorem ZHN:Zab Tryz.prog Zq (fun N=>ZD Tryz.prog Zq N) 85 ZDS=true:=by kernel_rfl
theorem ZJp:Zab Tryz.prog Zq (fun N=>ZD Tryz.prog Zq N) 86 ZEM=true:=by kernel_rfl
theorem ZHg:Zab Tryz.prog Zq (fun N=>ZD Tryz.prog Zq N) 87 ZEH=true:=by kernel_rfl
theorem ZH9:Zab Tryz.prog Zq (fun N=>ZD Tryz.prog Zq N) 88 ZEF=true:=by kernel_rfl
theorem ZHo:Zab Tryz.prog Zq (fun N=>ZD Tryz.prog Zq N) 89 ZGi=true:=by kernel_rfl
theorem ZIW:Zab Tryz.prog Zq (fun N=>ZD Tryz.prog Zq N) 90 ZEW=true:=by kernel_rfl
theorem ZH8:Zab Tryz.prog Zq (fun N=>ZD Tryz.prog Zq N) 91 ZEp=true:=by kernel_rfl
theorem ZJG:Zab Tryz.prog Zq (fun N=>ZD Tryz.prog Zq N) 92 ZDL=true:=by kernel_rfl
theorem ZIP:Zab Tryz.prog Zq (fun N=>ZD Tryz.prog Zq N) 93 ZEE=true:=by kernel_rfl
theorem ZHJ:Zab Tryz.prog Zq (fun N=>ZD Tryz.prog Zq N) 94 ZEU=true:=by kernel_rfl
theorem ZHx:Zab Tryz.prog Zq (fun N=>ZD Tryz.prog Zq N) 95 ZEA=true:=by kernel_rfl
theorem ZHh:Zab Tryz.prog Zq (fun N=>ZD Tryz.prog Zq N) 96 ZD7=true:=by kernel_rfl
theorem ZI1:Zab Tryz.prog Zq (fun N=>ZD Tryz.prog Zq N) 97 ZEv=true:=by kernel_rfl
theorem ZJo:Zab Tryz.prog Zq (fun N=>ZD Tryz.prog Zq N) 98 ZEZ=true:=by kernel_rfl
theorem ZI7:Zab Tryz.prog Zq (fun N=>ZD Tryz.prog Zq N) 99 ZDO=true:=by kernel_rfl
theorem ZFE:Zab Tryz.prog Zq (fun N=>ZD Tryz.prog Zq N) 100 ZBx=true:=by kernel_rfl
theorem ZFC:Zab Tryz.prog Zq (fun N=>ZD Tryz.prog Zq N) 101 ZzV=true:=by kernel_rfl
theorem ZGC:Zab Tryz.prog Zq (fun N=>ZD Tryz.prog Zq N) 102 ZAd=true:=by kernel_rfl
theorem ZFr:Zab Tryz.prog Zq (fun N=>ZD Tryz.prog Zq N) 103 ZAo=true:=by kernel_rfl
theorem ZFJ:Zab Tryz.prog Zq (fun N=>ZD Tryz.prog Zq N) 104 ZxC=true:=by kernel_rfl
theorem ZGd:Zab Tryz.prog Zq (fun N=>ZD Tryz.prog Zq N) 105 ZBf=true:=by kernel_rfl
theorem ZGj:Zab Tryz.prog Zq (fun N=>ZD Tryz.prog Zq N) 106 ZzX=true:=by kernel_rfl
theorem ZGk:Zab Tryz.prog Zq (fun N=>ZD Tryz.prog Zq N) 108 Zz4=true:=by kernel_rfl
theorem ZGB:Zab Tryz.prog Zq (fun N=>ZD Tryz.prog Zq N) 109 ZAm=true:=by kernel_rfl
theorem ZFs:Zab Tryz.prog Zq (fun N=>ZD Tryz.prog Zq N) 110 Zz2=true:=by kernel_rfl
theorem ZG3:Zab Tryz.prog Zq (fun N=>ZD Tryz.prog Zq N) 111 Zzm=true:=by kernel_rfl
theorem ZGt:Zab Tryz.prog Zq (fun N=>ZD Tryz.prog Zq N) 112 ZBN=true:=by kernel_rfl
theorem ZFV:Zab Tryz.prog Zq (fun N=>ZD Tryz.prog Zq N) 113 ZDC=true:=by kernel_rfl
theorem ZGS:Zab Tryz.prog Zq (fun N=>ZD Tryz.prog Zq N) 114 ZAe=true:=by kernel_rfl
theorem ZFU:Zab Tryz.prog Zq (fun N=>ZD Tryz.prog Zq N) 115 ZDB=true:=by kernel_rfl
theorem ZFK:Zab Tryz.prog Zq (fun N=>ZD Tryz.prog Zq N) 116 ZBS=true:=by kernel_rfl
theorem ZGh:Zab Tryz.prog Zq (fun N=>ZD Tryz.prog Zq N) 117 Zzi=true:=by kernel_rfl
theorem ZGb:Zab Tryz.prog Zq (fun N=>ZD Tryz.prog Zq N) 118 ZA2=true:=by kernel_rfl
theorem ZGW:Zab Tryz.prog Zq (fun N=>ZD Tryz.prog Zq N) 120 ZAK=true:=by kernel_rfl
theorem ZFT:Zab Tryz.prog Zq (fun N=>ZD Tryz.prog Zq N) 121 ZzH=true:=by kernel_rfl
theorem ZG7:Zab Tryz.prog Zq (fun N=>ZD Tryz.prog Zq N) 122 Zzr=true:=by kernel_rfl
theorem ZFG:Zab Tryz.prog Zq (fun N=>ZD Tryz.prog Zq N) 123 ZA8=true:=by kernel_rfl
theorem ZFY:Zab Tryz.prog Zq (fun N=>ZD Tryz.prog Zq N) 124 ZB5=true:=by kernel_rfl
theorem ZGc:Zab Tryz.prog Zq (fun N=>ZD Tryz.prog Zq N) 125 ZAw=true:=by kernel_rfl
theorem ZGH:Zab Tryz.prog Zq (fun N=>ZD Tryz.prog Zq N) 126 ZAX=true:=by kernel_rfl
theorem ZGQ:Zab Tryz.prog Zq (fun N=>ZD Tryz.prog Zq N) 127 ZA3=true:=by kernel_rfl
theorem ZGm:Zab Tryz.prog Zq (fun N=>ZD Tryz.prog Zq N) 128 ZDv=true:=by kernel_rfl
theorem ZFx:Zab Tryz.prog Zq (fun N=>ZD Tryz.prog Zq N) 129 ZBk=true:=by kernel_rfl
theorem ZF4:Zab Tryz.prog Zq (fun N=>ZD Tryz.prog Zq N) 139 ZAq=true:=by kernel_rfl
theorem ZFA:Zab Tryz.prog Zq (fun N=>ZD Tryz.prog Zq N) 140 ZA6=true:=by kernel_rfl
theorem ZFq:Zab Tryz.prog Zq (fun N=>ZD Tryz.prog Zq N) 141 ZAO=true:=by kernel_rfl
theorem ZFR:Zab Tryz.prog Zq (fun N=>ZD Tryz.prog Zq N) 142 ZAV=true:=by kernel_rfl
theorem ZFL:Zab Tryz.prog Zq (fun N=>ZD Tryz.prog Zq N) 143 ZBj=true:=by kernel_rfl
theorem ZGu:Zab Tryz.prog Zq (fun N=>ZD Tryz.prog Zq N) 148 ZBC=true:=by kernel_rfl
theorem ZGf:∀f fn,ctx.code f=some fn→Zab Tryz.prog Zq (fun N=>ZD Tryz.prog Zq N) f fn=true∨Zp5 Tryz.prog f fn:=by
 intro f fn h
 change code f=some fn at h
 unfold code at h
 split at h
 ·cases h;exact .inl ok4
 ·cases h;exact .inl ok6
 ·cases h;exact .inl ok7
 ·cases h;exact .inl ok8
 ·cases h;exact .inl ok9
 ·cases h;exact .inl ZJr
 ·cases h;exact .inl ZJF
 ·cases h;exact .inl ZIm
 ·cases h;exact .inl ZIR
 ·cases h;exact .inl ZIt
 ·cases h;exact .inl ZJR
 ·cases h;exact .inl ZIC
 ·cases h;exact .inl ZJw
 ·cases h;exact .inl ZHi
 ·cases h;exact .inl ZJL
 ·cases h;exact .inl ZIg
 ·cases h;exact .inl ZHj
 ·cases h;exact .inl ZJO
 ·cases h;exact .inr Last.special
 ·cases h;exact .inl ZJP
 ·cases h;exact .inl ZH7
 ·cases h;exact .inl ZHR
 ·cases h;exact .inl ZIu
 ·cases h;exact .inl ZHk
 ·cases h;exact .inl ZHl
 ·cases h;exact .inl ZHW
 ·cases h;exact .inl ZJJ
 ·cases h;exact .inl ZHU
 ·cases h;exact .inl ZHv
 ·cases h;exact .inl ZHK
 ·cases h;exact .inl ZIL
 ·cases h;exact .inl ZHP
 ·cases h;exact .inl ZI6
 ·cases h;exact .inl ZHc
 ·cases h;exact .inl ZHF
 ·cases h;exact .inl ZJb
 ·cases h;exact .inl ZJH
 ·cases h;exact .inl ZI4
 ·cases h;exact .inl ZHd
 ·cases h;exact .inl ZHz
 ·cases h;exact .inl ZJM
 ·cases h;exact .inl ZHp
 ·cases h;exact .inl ZJV
 ·cases h;exact .inl ZIs
 ·cases h;exact .inl ZJB
 ·cases h;exact .inl ZHX
 ·cases h;exact .inl ZIi
 ·cases h;exact .inl ZJv
 ·cases h;exact .inl ZJq
 ·cases h;exact .inl ZJE
 ·cases h;exact .inl ZJD
 ·cases h;exact .inl ZJe
 ·cases h;exact .inl ZH2
 ·cases h;exact .inl ZJf
 ·cases h;exact .inl ZJW
 ·cases h;exact .inl ZIM
 ·cases h;exact .inl ZHG
 ·cases h;exact .inl ZIp
 ·cases h;exact .inl ZIv
 ·cases h;exact .inl ZJu
 ·cases h;exact .inl ZJc
 ·cases h;exact .inl ZJd
 ·cases h;exact .inl ZH1
 ·cases h;exact .inl ZJK
 ·cases h;exact .inl ZJx
 ·cases h;exact .inl ZId
 ·cases h;exact .inl ZHZ
 ·cases h;exact .inl ZIQ
 ·cases h;exact .inl ZIK
 ·cases h;exact .inl ZHt
 ·cases h;exact .inl ZHQ
 ·cases h;exact .inl ZID
 ·cases h;exact .inl ZH3
 ·cases h;exact .inl ZJy
 ·cases h;exact .inl ZII
 ·cases h;exact .inl ZHN
 ·cases h;exact .inl ZJp
 ·cases h;exact .inl ZHg
 ·cases h;exact .inl ZH9
 ·cases h;exact .inl ZHo
 ·cases h;exact .inl ZIW
 ·cases h;exact .inl ZH8
 ·cases h;exact .inl ZJG
 ·cases h;exact .inl ZIP
 ·cases h;exact .inl ZHJ
 ·cases h;exact .inl ZHx
 ·cases h;exact .inl ZHh
 ·cases h;exact .inl ZI1
 ·cases h;exact .inl ZJo
 ·cases h;exact .inl ZI7
 ·cases h;exact .inl ZFE
 ·cases h;exact .inl ZFC
 ·cases h;exact .inl ZGC
 ·cases h;exact .inl ZFr
 ·cases h;exact .inl ZFJ
 ·cases h;exact .inl ZGd
 ·cases h;exact .inl ZGj
 ·cases h;exact .inl ZGk
 ·cases h;exact .inl ZGB
 ·cases h;exact .inl ZFs
 ·cases h;exact .inl ZG3
 ·cases h;exact .inl ZGt
 ·cases h;exact .inl ZFV
 ·cases h;exact .inl ZGS
 ·cases h;exact .inl ZFU
 ·cases h;exact .inl ZFK
 ·cases h;exact .inl ZGh
 ·cases h;exact .inl ZGb
 ·cases h;exact .inl ZGW
 ·cases h;exact .inl ZFT
 ·cases h;exact .inl ZG7
 ·cases h;exact .inl ZFG
 ·cases h;exact .inl ZFY
 ·cases h;exact .inl ZGc
 ·cases h;exact .inl ZGH
 ·cases h;exact .inl ZGQ
 ·cases h;exact .inl ZGm
 ·cases h;exact .inl ZFx
 ·cases h;exact .inl ZF4
 ·cases h;exact .inl ZFA
 ·cases h;exact .inl ZFq
 ·cases h;exact .inl ZFR
 ·cases h;exact .inl ZFL
 ·cases h;exact .inl ZGu
 ·cases h
theorem ZGn:ZgX Tryz.prog Zq (evW ctx):=ZzA ZGf
end Go.Proofs.YtnmbdjkbaihicaaGreatDoor
namespace Go.Proofs.YtnmbdjkbaihicaaGreatDoorE
open Go
set_option linter.unusedVariables false
set_option linter.unusedSimpArgs false
inductive Lf where
 | bool | int (k:IntKind) | str | sl (ag:Bool) (els:List Lf)
mutual
def ZCN:Lf→D→Prop
 | .bool,x=>∃b,x = .bool b
 | .int k,x=>∃n,x = .int k n∧(Lit.int k n).wf=true
 | .str,x=>∃s,x = .str s∧s.size≤maxLen
 | .sl ag els,x=>∃xs,x = .list true xs∧xs.length≤maxLen∧∀y∈xs,y.isAgg=ag∧ZhQ els y.cells
def ZhQ:List Lf→List D→Prop
 | [],ds=>ds=[]
 | l :: ls,ds=>∃d r,ds=d :: r∧ZCN l d∧ZhQ ls r
end
def Zk8 (P:Program) (g:TypeId→Option (List Lf×Bool)):Nat→List Field→Option (List Lf)
 | _,[]=>some []
 | off,f :: fs=>match g f.type with
  | some (l,_)=>(match Zk8 P g (off+l.length) fs with
   | some r=>bif Nat.beq f.offset off&&Nat.beq (P.cellsOf f.type) l.length then some (l++r) else none
   | none=>none)
  | none=>none
def lfs (P:Program):Nat→TypeId→Option (List Lf×Bool)
 | 0,_=>none
 | n+1,t=>match P.underlying t with
  | some .bool=>some ([.bool],false)
  | some (.int k)=>some ([.int k],false)
  | some .string=>some ([.str],false)
  | some (.slice e)=>(match lfs P n e with | some (l,ag)=>bif Nat.beq (P.cellsOf e) l.length&&Nat.blt 0 l.length then some ([.sl ag l],false) else none | none=>none)
  | some (.struct fs)=>(match Zk8 P (lfs P n) 0 fs.toList with | some l=>bif Nat.beq (P.cellsOf t) l.length then some (l,true) else none | none=>none)
  | _=>none
mutual
theorem ZvU:∀(l:Lf) (x:D),ZCN l x→x.esc=true∧x.isAgg=false∧x.cells=[x]
 | .bool,x,h=>by obtain⟨b,rfl⟩:=h;exact⟨rfl,rfl,rfl⟩
 | .int k,x,h=>by obtain⟨n,rfl,_⟩:=h;exact⟨rfl,rfl,rfl⟩
 | .str,x,h=>by obtain⟨s,rfl,_⟩:=h;exact⟨rfl,rfl,rfl⟩
 | .sl ag els,x,h=>by obtain⟨xs,rfl,_⟩:=h;exact⟨rfl,rfl,rfl⟩
theorem ZtI:∀(ls:List Lf) (ds:List D),ZhQ ls ds→D.escs ds=true∧ds.length=ls.length
 | [],ds,h=>by obtain rfl:=h;exact⟨rfl,rfl⟩
 | l :: ls,ds,h=>by
  obtain⟨d,r,rfl,h1,h2⟩:=h
  obtain⟨e1,e2,_⟩:=ZvU l d h1
  obtain⟨e3,e4⟩:=ZtI ls r h2
  exact⟨by simp[D.escs,e1,e2,e3],by simp[e4]⟩
end
theorem Ztr:∀(l r:List Lf) (ds es:List D),ZhQ l ds→ZhQ r es→ZhQ (l++r) (ds++es)
 | [],r,ds,es,h,k=>by obtain rfl:=h;exact k
 | a :: l,r,ds,es,h,k=>by
  obtain⟨d,ds',rfl,h1,h2⟩:=h
  exact⟨d,ds'++es,rfl,h1,Ztr l r ds' es h2 k⟩
section
variable {H:Type} {enc:TypeId×Value→H} {P:Program} {W:World} {sp:Nat→Bool} {held:Bool}
abbrev All:Nat→Prop:=fun _=>True
theorem Ztv:∀(ds es:List D) (us vs:List Value),Za6 All All All W ds us→Za6 All All All W es vs→Za6 All All All W (ds++es) (us++vs)
 | [],es,us,vs,h,k=>by obtain rfl:=h;exact k
 | x :: ds,es,us,vs,h,k=>by
  obtain⟨u,us',rfl,h1,h2⟩:=h
  exact⟨u,us'++vs,rfl,h1,Ztv ds es us' vs h2 k⟩
theorem Zvt {a:Addr}{n:Nat}{cs:List Value} (h:W.cells? 0 a n=some cs):cs.length=n∧∀k,k<n→W.cell? (a.add k)=cs[k]?:=by
 unfold World.cells? at h
 rw[if_pos (Nat.zero_le _)] at h
 exact⟨by simpa using mapM_some_length h,fun k hk=>mapM_some_get h k k (by simp[hk])⟩
theorem Zs4 {g:TypeId→Option (List Lf×Bool)}{m:Nat}{cs:List Value}
  (hg:∀t l ag cs x,g t=some (l,ag)→DataW.trod enc P W 0 sp held m t cs=some x→∃ds,Za6 All All All W ds cs∧ZhQ l ds) :
  ∀(fs:List Field) (off:Nat) (l:List Lf) (xs:List (DataW H×List MemPlace)),Zk8 P g off fs=some l→xs.length=fs.length→off+l.length≤cs.length →
   (∀(i:Nat) f,fs[i]? = some f→DataW.trod enc P W 0 sp held m f.type ((cs.drop f.offset).take (P.cellsOf f.type))=xs[i]?)→∃ds,Za6 All All All W ds ((cs.drop off).take l.length)∧ZhQ l ds
 | [],off,l,xs,h,_,_,_=>by
  simp only[Zk8,Option.some.injEq] at h
  subst h
  exact⟨[],by simp[Za6],rfl⟩
 | f :: fs,off,l,xs,h,hl,hle,hx=>by
  simp only[Zk8] at h
  cases hgf:g f.type with
  | none=>rw[hgf] at h;cases h
  | some q=>
   obtain⟨l1,ag⟩:=q
   rw[hgf] at h
   dsimp only at h
   cases hr:Zk8 P g (off+l1.length) fs with
   | none=>rw[hr] at h;cases h
   | some r=>
    rw[hr] at h
    dsimp only at h
    cases hc:(Nat.beq f.offset off&&Nat.beq (P.cellsOf f.type) l1.length) with
    | false=>rw[hc] at h;cases h
    | true=>
     rw[hc] at h
     simp only[cond_true,Option.some.injEq] at h
     subst h
     simp only[Bool.and_eq_true] at hc
     have h1:=Nat.eq_of_beq_eq_true hc.1
     have h2:=Nat.eq_of_beq_eq_true hc.2
     rw[List.length_append] at hle
     cases xs with
     | nil=>simp at hl
     | cons x xs=>
      have hx0:=hx 0 f rfl
      rw[h1,h2] at hx0
      simp only[List.getElem?_cons_zero] at hx0
      obtain⟨d1,e1,e2⟩:=hg f.type l1 ag _ x hgf hx0
      obtain⟨d2,e3,e4⟩:=Zs4 (cs:=cs) hg fs (off+l1.length) r xs hr (by simpa using hl) (by omega) (fun i f' hf'=>by simpa using hx (i+1) f' (by simpa using hf'))
      refine⟨d1++d2,?_,Ztr _ _ _ _ e2 e4⟩
      have hspl:(cs.drop off).take (l1++r).length=(cs.drop off).take l1.length++(cs.drop (off+l1.length)).take r.length:=by
       rw[List.length_append,List.take_add,List.drop_drop]
      rw[hspl]
      exact Ztv _ _ _ _ e1 e3
theorem Zsw:∀(n:Nat) (t:TypeId) (l:List Lf) (ag:Bool),lfs P n t=some (l,ag)→∀(fuel:Nat) (cs:List Value) (x:DataW H×List MemPlace),DataW.trod enc P W 0 sp held fuel t cs=some x →
  ∃ds,Za6 All All All W ds cs∧ZhQ l ds∧(ag=false→∃u y,cs=[u]∧ds=[y]∧u.cells = #[u]∧y.isAgg=false)
 | 0,t,l,ag,h,fuel,cs,x,hx=>by cases h
 | n+1,t,l,ag,h,fuel,cs,x,hx=>by
  simp only[lfs] at h
  split at h
  ·rename_i ht
   cases h
   obtain⟨b,rfl,_⟩:=DataW.trod_bool ht hx
   exact⟨[.bool b],⟨_,_,rfl,rfl,rfl⟩,⟨_,_,rfl,⟨b,rfl⟩,rfl⟩,fun _=>⟨_,_,rfl,rfl,rfl,rfl⟩⟩
  ·rename_i k ht
   cases h
   obtain⟨m,rfl,_,hw⟩:=DataW.trod_int ht hx
   exact⟨[.int k m],⟨_,_,rfl,rfl,rfl⟩,⟨_,_,rfl,⟨m,rfl,hw⟩,rfl⟩,fun _=>⟨_,_,rfl,rfl,rfl,rfl⟩⟩
  ·rename_i ht
   cases h
   obtain⟨s,rfl,_,hs⟩:=DataW.trod_string ht hx
   exact⟨[.str s],⟨_,_,rfl,rfl,rfl⟩,⟨_,_,rfl,⟨s,rfl,hs⟩,rfl⟩,fun _=>⟨_,_,rfl,rfl,rfl,rfl⟩⟩
  ·rename_i e ht
   cases he:lfs P n e with
   | none=>rw[he] at h;cases h
   | some q=>
    obtain⟨le,age⟩:=q
    rw[he] at h
    dsimp only at h
    cases hc:(Nat.beq (P.cellsOf e) le.length&&Nat.blt 0 le.length) with
    | false=>rw[hc] at h;cases h
    | true=>
     rw[hc] at h
     simp only[cond_true,Option.some.injEq,Prod.mk.injEq] at h
     obtain⟨rfl,rfl⟩:=h
     simp only[Bool.and_eq_true] at hc
     have hsz:=Nat.eq_of_beq_eq_true hc.1
     have hpos:0<le.length:=by have:=hc.2;simp[Nat.blt] at this;omega
     rcases Go.Deep.open_slice ht hx with⟨rfl,_⟩ | ⟨a,len,cap,m,fu,Dd,Pl,rfl,_,hlc,hcap,hm,_,hel⟩
     ·exact⟨[.list true []],⟨_,_,rfl,⟨_,0,0,rfl,rfl,Nat.le_refl _,by simp,by simp⟩,rfl⟩,⟨_,_,rfl,⟨[],rfl,by simp,by simp⟩,rfl⟩,fun _=>⟨_,_,rfl,rfl,rfl,rfl⟩⟩
     ·rw[hsz] at hel
      have hlm:len≤m:=by rw[hm];split<;>omega
      have each:∀i,i<len→∃y u,Zbi All All All W y u∧y.isAgg=age∧ZhQ le y.cells∧u.cells.size=le.length∧(∀k v,u.cells[k]? = some v→W.cell? ((a.add (i*le.length)).add k)=some v)∧y.esc=true:=fun i hi=>by
       obtain⟨cs',h1,h2⟩:=hel i (by omega)
       obtain⟨c1,c2⟩:=Zvt h1
       obtain⟨ds,d1,d2,d3⟩:=Zsw n e le age he fu cs' _ h2
       obtain⟨s1,s2⟩:=ZtI _ _ d2
       cases age with
       | true=>
        refine⟨.agg ds,.agg cs'.toArray,⟨cs',rfl,d1⟩,rfl,d2,by simpa [Value.cells] using c1,fun k v hk=>?_,s1⟩
        have hk':cs'[k]? = some v:=by simpa [Value.cells] using hk
        rw[c2 k (by rw[← c1];exact(List.getElem?_eq_some_iff.1 hk').1)];exact hk'
       | false=>
        obtain⟨u,y,rfl,rfl,e1,e2⟩:=d3 rfl
        obtain⟨u',us',f1,f2,_⟩:=d1
        cases f1
        have hy:y.cells=[y]:=by
         cases y<;>first | rfl | (simp[D.isAgg] at e2)
        have hesc:y.esc=true:=by
         match le,d2,hpos with
         | l0 :: ls,d2,_=>
          obtain⟨d,r,g1,g2,_⟩:=d2
          cases g1
          exact(ZvU l0 y g2).1
        refine⟨y,u,f2,e2,by rw[hy];exact d2,by rw[e1,← c1];rfl,fun k v hk=>?_,hesc⟩
        rw[e1] at hk
        have hk0:k=0:=by
         have:=(Array.getElem?_eq_some_iff.1 hk).1;simp at this;exact this
        subst hk0
        simp at hk;subst hk
        rw[c2 0 (by omega)];rfl
      have all:∀j,j≤len→∃ys:List D,ys.length=j∧(∀y∈ys,y.isAgg=age∧ZhQ le y.cells∧y.esc=true)∧∀(i:Nat) y,ys[i]? = some y→∃u,Zbi All All All W y u∧u.cells.size=le.length∧∀k v,u.cells[k]? = some v→W.cell? ((a.add (i*le.length)).add k)=some v:=by
       intro j
       induction j with
       | zero=>intro _;exact⟨[],rfl,by simp,by simp⟩
       | succ j ih=>
        intro hj
        obtain⟨ys,y1,y2,y3⟩:=ih (by omega)
        obtain⟨y,u,z1,z2,z3,z4,z5,z6⟩:=each j (by omega)
        refine⟨ys++[y],by simp[y1],fun z hz=>?_,fun i z hz=>?_⟩
        ·rcases List.mem_append.1 hz with hz | hz
         ·exact y2 z hz
         ·simp at hz;subst hz;exact⟨z2,z3,z6⟩
        ·by_cases hi:i<ys.length
         ·rw[List.getElem?_append_left hi] at hz;exact y3 i z hz
         ·rw[List.getElem?_append_right (by omega)] at hz
          have hij:i-ys.length=0:=by
           have:=(List.getElem?_eq_some_iff.1 hz).1;simp at this;omega
          rw[hij] at hz
          simp at hz;subst hz
          have:i=j:=by omega
          subst this
          exact⟨u,z1,z4,z5⟩
      obtain⟨ys,y1,y2,y3⟩:=all len (Nat.le_refl _)
      refine⟨[.list true ys],⟨_,_,rfl,⟨_,len,cap,rfl,y1.symm,hlc,fun z hz=>(y2 z hz).2.2,fun hne=>?_⟩,rfl⟩,⟨_,_,rfl,⟨ys,rfl,by omega,fun z hz=>⟨(y2 z hz).1,(y2 z hz).2.1⟩⟩,rfl⟩,fun _=>⟨_,_,rfl,rfl,rfl,rfl⟩⟩
      have hlen:0<len:=by
       rw[← y1];exact List.length_pos_iff.2 hne
      obtain⟨cs0,h1,_⟩:=hel 0 (by omega)
      obtain⟨c1,c2⟩:=Zvt h1
      have c3:=c2 0 hpos
      have hcell:∃v,W.cell? a=some v:=by
       refine⟨cs0[0]'(by omega),?_⟩
       have e0:(a.add (0*le.length)).add 0=a:=by simp[Addr.add]
       rw[e0] at c3
       rw[c3];exact List.getElem?_eq_getElem (by omega)
      obtain⟨v,hv⟩:=hcell
      have hspot:a.spot=none∧a.block<W.heap.size:=by
       unfold World.cell? at hv
       split at hv
       ·rename_i hb
        cases hsx:a.spot with
        | none=>exact⟨rfl,(Array.getElem?_eq_some_iff.1 hb).1⟩
        | some z=>rw[hsx] at hv;simp at hv
       ·cases hv
      obtain⟨b,off,spot⟩:=a
      obtain⟨hs1,hs2⟩:=hspot
      simp only at hs1 hs2
      subst hs1
      refine⟨b,off,le.length,rfl,trivial,hs2,ZkH ys off fun j y hj=>?_⟩
      obtain⟨u,u1,u2,u3⟩:=y3 j y hj
      refine⟨u,u1,u2,fun k v hk=>?_⟩
      rw[← u3 k v hk]
      congr 1
      unfold Addr.add
      by_cases hj0:j*le.length=0
      ·by_cases hk0:k=0<;>simp[hj0,hk0]
      ·by_cases hk0:k=0<;>simp[hj0,hk0]
  ·rename_i fs ht
   cases hf:Zk8 P (lfs P n) 0 fs.toList with
   | none=>rw[hf] at h;cases h
   | some l'=>
    rw[hf] at h
    dsimp only at h
    cases hc:Nat.beq (P.cellsOf t) l'.length with
    | false=>rw[hc] at h;cases h
    | true=>
     rw[hc] at h
     simp only[cond_true,Option.some.injEq,Prod.mk.injEq] at h
     obtain⟨rfl,rfl⟩:=h
     have hcl:=Nat.eq_of_beq_eq_true hc
     obtain⟨xs,m,_,_,hlen,hxl,hxs⟩:=DataW.trod_struct ht hx
     have hlen':cs.length=l'.length:=hlen.trans hcl
     obtain⟨ds,e1,e2⟩:=Zs4 (m:=m) (cs:=cs) (g:=lfs P n) (fun t l ag cs x hg hx=>by
      obtain⟨ds,d1,d2,_⟩:=Zsw n t l ag hg m cs x hx
      exact⟨ds,d1,d2⟩) fs.toList 0 l' xs hf (by simpa using hxl) (by omega) (fun i f hf'=>hxs i f (by simpa using hf'))
     refine⟨ds,?_,e2,fun h=>by cases h⟩
     have:(cs.drop 0).take l'.length=cs:=by rw[List.drop_zero,List.take_of_length_le (by omega)]
     rw[this] at e1;exact e1
  ·cases h
def ZvG (ag:Bool) (ds:List D):D:=match ag,ds with | true,ds=>.agg ds | false,d :: _=>d | false,[]=>.nilp
theorem ZzP {n:Nat}{t:TypeId}{l:List Lf}{ag:Bool} (h:lfs P n t=some (l,ag)) {base:Nat}{v:Value}{d:DataW H}{ps:List MemPlace} (hv:Value.okWide P W .any base t v) (hx:DataW.Trod enc P W 0 sp held t v d ps) :
  ∃ds,ZhQ l ds∧Zbi All All All W (ZvG ag ds) v:=by
 obtain⟨fuel,hf⟩:=hx
 obtain⟨ds,d1,d2,d3⟩:=Zsw n t l ag h fuel _ _ hf
 refine⟨ds,d2,?_⟩
 have one:ag=false→v.cells = #[v]→Zbi All All All W (ZvG ag ds) v:=fun hag hc=>by
  subst hag
  obtain⟨u,y,e1,rfl,_,_⟩:=d3 rfl
  rw[hc] at e1
  cases e1
  obtain⟨u',us',f1,f2,_⟩:=d1
  rw[hc] at f1
  cases f1
  exact f2
 cases n with
 | zero=>cases h
 | succ n=>
  simp only[lfs] at h
  split at h
  ·rename_i ht
   cases h
   obtain⟨b,rfl⟩:=Go.WideShapes.okWide_bool ht hv
   exact one rfl rfl
  ·rename_i k ht
   cases h
   obtain⟨b,rfl⟩:=Go.WideShapes.okWide_int ht hv
   exact one rfl rfl
  ·rename_i ht
   cases h
   obtain⟨b,rfl⟩:=Go.WideShapes.okWide_string ht hv
   exact one rfl rfl
  ·rename_i e ht
   obtain⟨a,len,cap,rfl⟩:=Go.WideShapes.okWide_slice ht hv
   split at h
   ·rename_i le age hq
    cases hc:(Nat.beq (P.cellsOf e) le.length&&Nat.blt 0 le.length) with
    | false=>rw[hc] at h;cases h
    | true=>rw[hc] at h;cases h;exact one rfl rfl
   ·cases h
  ·rename_i fs ht
   obtain⟨cs,rfl,_⟩:=Go.WideShapes.okWide_struct ht hv
   split at h
   ·rename_i q hq
    cases hc:Nat.beq (P.cellsOf t) q.length with
    | false=>rw[hc] at h;cases h
    | true=>
     rw[hc] at h
     cases h
     exact⟨cs.toList,by simp,by simpa [Value.cells] using d1⟩
   ·cases h
  ·cases h
end
end Go.Proofs.YtnmbdjkbaihicaaGreatDoorE
namespace Go.Proofs.YtnmbdjkbaihicaaGreatDoorE
open Go
set_option linter.unusedVariables false
set_option linter.unusedSimpArgs false
def R0:RP:={ B1:=fun _=>False,B0:=fun _=>False,M:=fun _=>none,H:=[] }
section
variable {P:Program} {G:ZbH} {Γ:Ctx} {W:World}
theorem Zlu (c:Nat):¬R0.live c:=by
 rintro ⟨i,h,_⟩
 simp[R0,Zai,nth] at h
theorem ZFu:R0.OK W where
 b01:=fun c h=>h.elim
 al:=fun i blk h=>by simp[R0] at h
 inj:=fun i j c h=>by simp[R0,Zai,nth] at h
 lt:=fun i c h=>by cases h
 blk:=fun i m blk h=>by simp[R0] at h
 nb:=fun i c h=>by simp[R0,Zai,nth] at h
 bl:=fun c h=>h.elim
theorem ZEl {x:D}{u:Value} (h:Zbi All All All W x u):R0.den W x u:=
 Zbi.change _ _ _ _ (fun b _ _=>⟨Zlu b,fun h=>h⟩) (fun b _ _=>⟨Zlu b,fun h=>h⟩) (fun b _ _=>Zlu b) (fun _ _ _=>rfl) (Nat.le_refl _) (fun _ _=>trivial) (fun _ _=>trivial) x u h
theorem ZCw {xs:List D}{us:List Value} (h:Za6 All All All W xs us):ZaQ R0 W (ZcZ xs) us:=
 (ZdF xs us).2 (Za6.change _ _ _ _ (fun b _ _=>⟨Zlu b,fun h=>h⟩) (fun b _ _=>⟨Zlu b,fun h=>h⟩) (fun b _ _=>Zlu b) (fun _ _ _=>rfl) (Nat.le_refl _) (fun _ _=>trivial) (fun _ _=>trivial) xs us h)
theorem Zy4 (hs:ZgX P G (evW Γ)) (hg:GOK G R0 W) {f:Nat}{xs:List D}{us:List Value} (hd:Za6 All All All W xs us) {H':Zp} (he:evW Γ f (ZcZ xs) []=some (.d (.bool true),H')) :
  Calls P f us.toArray W fun e W'=>e = .returned (.bool true)∧Go.RowKit.Below W.heap.size W W':=by
 obtain⟨_,h⟩:=hs f (ZcZ xs) [] _ _ he
 refine(h R0 W us ZFu hg rfl (fun i _=>rfl) (ZCw hd)).mono fun e W' ⟨u,h1,R',x,ok,hH,hv,_,_⟩=>?_
 have hu:u = .bool true:=hv
 subst hu
 exact⟨h1,⟨x.os,x.tape,x.output,x.grow,fun k hk=>x.same k hk (Zlu k)⟩⟩
def ZoH (l:List (IntKind×Int)):List (DataW Unit):=l.map fun q=>.lit (.int q.1 q.2)
theorem Zv4 {n:String}{d:DataW Unit}:∀{L:List (String×DataW Unit)}{ps:List MemPlace},DataW.LaidVars P W L ps→(n,d)∈L →
  ∃g t cs fuel p,P.globalNamed n=some g∧(P.globals[g]?).map (·.type)=some t∧W.var? P n=some cs∧DataW.trod (fun _=>()) P W 0 (fun _=>true) false fuel t cs.toList=some (d,p)
 | [],_,_,h=>by cases h
 | (m,e) :: L,ps,h,hm=>by
  obtain⟨g,t,cs,fuel,p,q,h1,h2,h3,h4,h5,_⟩:=h
  rcases List.mem_cons.1 hm with hm | hm
  ·cases hm;exact⟨g,t,cs,fuel,p,h1,h2,h3,h4⟩
  ·exact Zv4 h5 hm
theorem Zsr {L:List (String×DataW Unit)} (h:laidMetH P L W) (hl:(L.all fun x=>x.2.handleName?.isNone)=true) {n:String}{l:List (IntKind×Int)} (hm:(n,DataW.agg (ZoH l))∈L) {g t N e:Nat}{k:IntKind}
  (hg:P.globalNamed n=some g) (ht:(P.globals[g]?).map (·.type)=some t) (hu:P.underlying t=some (.array N e)) (he:P.underlying e=some (.int k)) (hc:P.cellsOf e=1) (hN:l.length=N) (hne:0<N) :
  R0.den W (.rptr (gD l)) (.pointer (some ⟨g,0,none⟩)):=by
 rw[MakeChecks.laidMetH_plain _ _ _ hl] at h
 obtain⟨ps,hL,_,_⟩:=h
 obtain⟨g',t',cs,fuel,p,h1,h2,h3,h4⟩:=Zv4 hL hm
 obtain rfl:=Option.some.inj (hg.symm.trans h1)
 obtain rfl:=Option.some.inj (ht.symm.trans h2)
 obtain⟨xs,m,_,hx,hlen,hxn,hel⟩:=DataW.trod_array hu h4
 have hmap:ZoH l=xs.map (·.1):=by
  have:=(Prod.mk.inj hx).1
  exact DataW.agg.inj this
 have cell:∀(i:Nat) q,l[i]? = some q→W.cell? ⟨g,i,none⟩=some (.int q.1 q.2):=fun i q hq=>by
  have hi:i<N:=by rw[← hN];exact(List.getElem?_eq_some_iff.1 hq).1
  have hi2:i<xs.length:=by omega
  have e1:=hel i hi
  rw[List.getElem?_eq_getElem hi2] at e1
  obtain⟨z,z1,z2,_⟩:=DataW.trod_int he e1
  have e3:(ZoH l)[i]? = some (xs[i]'hi2).1:=by rw[hmap];simp[hi2]
  rw[z2] at e3
  have e4:(ZoH l)[i]? = some (.lit (.int q.1 q.2)):=by simp[ZoH,hq]
  rw[e4] at e3
  have e5:q.1=k∧q.2=z:=by
   have:=Option.some.inj e3
   simpa using this
  rw[World.var?_cell h1 h3 i,hc] at *
  have e6:(cs.toList.drop (i*1)).take 1=[.int k z]:=z1
  have e7:cs.toList[i]? = some (.int k z):=by
   have:(cs.toList.drop (i*1))[0]? = some (.int k z):=by
    have h8:((cs.toList.drop (i*1)).take 1)[0]? = some (.int k z):=by rw[e6];rfl
    rwa [List.getElem?_take_of_lt (by omega)] at h8
   simpa using this
  rw[e5.1,e5.2]
  simpa using e7
 have hb:g<W.heap.size:=by
  have:=cell 0 (l[0]'(by omega)) (List.getElem?_eq_getElem (by omega))
  unfold World.cell? at this
  split at this
  ·rename_i hb;exact(Array.getElem?_eq_some_iff.1 hb).1
  ·cases this
 have gd:∀(l:List (IntKind×Int)) (i:Nat) x,(gD l)[i]? = some x→∃q,l[i]? = some q∧x = .int q.1 q.2:=by
  intro l
  induction l with
  | nil=>intro i x h;simp[gD] at h
  | cons a r ih=>
   intro i x h
   obtain⟨k,z⟩:=a
   cases i with
   | zero=>simp[gD] at h;exact⟨(k,z),rfl,h.symm⟩
   | succ i=>simpa using ih i x (by simpa [gD] using h)
 refine ZEl ⟨g,0,rfl,trivial,hb,Zih _ _ fun j x hj=>?_⟩
 obtain⟨q,q1,rfl⟩:=gd l j x hj
 exact⟨_,by rw[Nat.zero_add];exact cell j q q1,rfl⟩
end
end Go.Proofs.YtnmbdjkbaihicaaGreatDoorE
namespace Go.Proofs.YtnmbdjkbaihicaaGreatDoorE
open Go
set_option linter.unusedVariables false
set_option linter.unusedSimpArgs false
noncomputable def bnd {α β:Type} (x:Option α) (k:α→Option β):Option β:=@dite _ (∃a,x=some a) (Classical.propDecidable _) (fun h=>k (Classical.choose h)) fun _=>none
theorem ZfP {α β:Type} (x:Option α) (k:α→Option β):bnd x k=(match x with | some a=>k a | none=>none):=by
  unfold bnd
  cases x with
  | none=>exact dif_neg (fun⟨a,h⟩=>by cases h)
  | some a=>
    have h:∃b,some a=some b:=⟨a,rfl⟩
    rw[dif_pos h]
    have:=Classical.choose_spec h
    rw[← Option.some.inj this]
theorem ZmY {α β:Type} (a:α) (k:α→Option β):bnd (some a) k=k a:=ZfP _ _
section
variable {β:Type}
def ZHr:List Nat:=[0,1,2,3,4,5,6,7,8,9,10,11,12,13,14,15,16,17,18,19,20,21,22,23,24,25,26,27,28,29,30,31,32,33,34,35,36,37,38,39,40,41,42,43,44,45,46,47,48,49,50,51,52,53,54,55,56,57,58,59,60,61,62,63]
def fgo (n:Nat) (k:Nat→Option β):List Nat→Option β
  | []=>k n
  | a :: l=>match Nat.beq n a with | true=>k a | false=>fgo n k l
def Zeu (n:Nat) (k:Nat→Option β):Option β:=fgo n k ZHr
def Zj5 (v:V) (k:V→Option β):Option β:=
  match v with
  | .d x=>k (.d x) | .bad=>k .bad | .ptr b o=>Zeu b fun b=>Zeu o fun o=>k (.ptr b o) | .eptr b sz i j=>Zeu b fun b=>Zeu j fun j=>k (.eptr b sz i j)
  | .sl b sz=>Zeu b fun b=>k (.sl b sz) | .slp b sz o l=>Zeu b fun b=>k (.slp b sz o l) | .nilsl sz=>k (.nilsl sz)
  | .agg cs=>k (.agg cs) | .tup cs=>k (.tup cs) | .fn f cs=>k (.fn f cs) | .mp b=>Zeu b fun b=>k (.mp b)
def ZkN (l:List V) (k:List V→Option β):Option β:=
  match l with
  | []=>k []
  | v :: vs=>Zj5 v fun v=>ZkN vs fun vs=>k (v :: vs)
def ZtY (v:V) (k:V→Option β):Option β:=
  match v with
  | .d x=>k (.d x) | .bad=>k .bad | .ptr b o=>Zj5 (.ptr b o) k | .eptr b sz i j=>Zj5 (.eptr b sz i j) k
  | .sl b sz=>Zj5 (.sl b sz) k | .slp b sz o l=>Zj5 (.slp b sz o l) k | .nilsl sz=>k (.nilsl sz)
  | .agg cs=>ZkN cs fun cs=>k (.agg cs) | .tup cs=>ZkN cs fun cs=>k (.tup cs) | .fn f cs=>ZkN cs fun cs=>k (.fn f cs) | .mp b=>Zj5 (.mp b) k
def ZjI (l:List V) (k:List V→Option β):Option β:=
  match l with
  | []=>k []
  | v :: vs=>ZtY v fun v=>ZjI vs fun vs=>k (v :: vs)
def Zwo (b:Blk) (k:Blk→Option β):Option β:=
  match b with
  | .dead=>k .dead | .cells cs=>ZjI cs fun cs=>k (.cells cs) | .arr sz xs=>k (.arr sz xs) | .mp es=>k (.mp es)
def Zmg (H:Zp) (k:Zp→Option β):Option β:=
  match H with
  | []=>k []
  | b :: bs=>Zwo b fun b=>Zmg bs fun bs=>k (b :: bs)
theorem ZBm (n:Nat) (k:Nat→Option β):∀(l:List Nat),fgo n k l=k n
  | []=>rfl
  | a :: l=>by
    unfold fgo
    cases h:Nat.beq n a with
    | true=>rw[Nat.eq_of_beq_eq_true h]
    | false=>exact ZBm n k l
theorem ZeD (n:Nat) (k:Nat→Option β):Zeu n k=k n:=ZBm n k _
theorem ZrC (v:V) (k:V→Option β):Zj5 v k=k v:=by cases v<;>simp[Zj5,ZeD]
theorem ZqW:∀(l:List V) (k:List V→Option β),ZkN l k=k l
  | [],k=>rfl
  | v :: vs,k=>by unfold ZkN;rw[ZrC,ZqW vs]
theorem ZtW (v:V) (k:V→Option β):ZtY v k=k v:=by cases v<;>simp[ZtY,ZrC,ZqW]
theorem Zje:∀(l:List V) (k:List V→Option β),ZjI l k=k l
  | [],k=>rfl
  | v :: vs,k=>by unfold ZjI;rw[ZtW,Zje vs]
theorem Zy0 (b:Blk) (k:Blk→Option β):Zwo b k=k b:=by cases b<;>simp[Zwo,Zje]
theorem ZkJ:∀(l:Zp) (k:Zp→Option β),Zmg l k=k l
  | [],k=>rfl
  | v :: vs,k=>by unfold Zmg;rw[Zy0,ZkJ vs]
def Zk5 (l:List Nat) (k:List Nat→Option β):Option β:=
  match l with
  | []=>k []
  | a :: l=>Zeu a fun a=>Zk5 l fun l=>k (a :: l)
theorem Zk2:∀(l:List Nat) (k:List Nat→Option β),Zk5 l k=k l
  | [],k=>rfl
  | a :: l,k=>by unfold Zk5;rw[ZeD,Zk2 l]
def Zna (H:Zp) (l:List Nat) (bs:List Nat) (k:List Nat→Option β):Option β:=
  match bs with
  | []=>k l
  | b :: bs=>(match Zj8 l b || !(Zai H b) with
    | true=>Zna H l bs k
    | false=>Zk5 (l++[b]) fun l=>Zna H l bs k)
theorem Zk4 (H:Zp):∀(bs l:List Nat) (k:List Nat→Option β),Zna H l bs k=k (ZgY H l bs)
  | [],l,k=>rfl
  | b :: bs,l,k=>by
    unfold Zna ZgY
    cases h:(Zj8 l b || !(Zai H b)) with
    | true=>exact Zk4 H bs l k
    | false=>simp only[Zk2,cond_false];exact Zk4 H bs _ k
def Zus (H:Zp) (n i:Nat) (l:List Nat) (k:List Nat→Option β):Option β:=
  match n with
  | 0=>k l
  | n+1=>(match nth l i with
    | some b=>Zk5 (Zx5 H b) fun bs=>Zna H l bs fun l=>Zeu (i+1) fun i=>Zus H n i l k
    | none=>k l)
theorem Zti (H:Zp):∀(n i:Nat) (l:List Nat) (k:List Nat→Option β),Zus H n i l k=k (ZmQ H n i l)
  | 0,i,l,k=>rfl
  | n+1,i,l,k=>by
    unfold Zus ZmQ
    cases h:nth l i with
    | none=>rfl
    | some b=>simp only[Zk2,ZeD,Zk4];exact Zti H n (i+1) _ k
def Zhd (m:Nat) (vs:List V) (H:Zp) (k:List Nat→List V→Zp→Option β):Option β:=
  ZjI vs fun vs=>Zk5 (Zo4 m) fun u=>Zk5 (ZiT vs) fun r=>Zna H u r fun l=>Zus H (H.length+1) 0 l fun L=>
    (match ZoX L&&ZsS H.length L with
    | true=>ZjI (ZiZ (fun b=>idx L b 0) vs) fun vs=>Zmg (pick H (fun b=>idx L b 0) L) fun H=>k L vs H
    | false=>none)
theorem ZdU (m:Nat) (vs:List V) (H:Zp) (k:List Nat→List V→Zp→Option β):Zhd m vs H k=(match extract m vs H with | some (L,vs,H)=>k L vs H | none=>none):=by
  unfold Zhd extract Zpj
  simp only[Zje,Zk2,Zk4,Zti,ZkJ]
  cases (ZoX (ZmQ H (H.length+1) 0 (ZgY H (Zo4 m) (ZiT vs)))&&ZsS H.length (ZmQ H (H.length+1) 0 (ZgY H (Zo4 m) (ZiT vs))))<;>rfl
def Zoq (n:Nat) (vs:List V) (k:List V→List Blk→Option β):Option β:=
  match vs with
  | []=>k [] []
  | v :: vs=>(match v with
    | .nilsl sz=>(match Nat.blt 0 sz with
      | true=>Zeu (n+1) fun n1=>Zoq n1 vs fun vs bs=>k (.sl n sz :: vs) (.arr sz [] :: bs)
      | false=>Zoq n vs fun vs bs=>k (.nilsl sz :: vs) bs)
    | v=>Zoq n vs fun vs bs=>k (v :: vs) bs)
theorem Zkk:∀(vs:List V) (n:Nat) (k:List V→List Blk→Option β),Zoq n vs k=k (Zcg n vs).1 (Zcg n vs).2
  | [],n,k=>rfl
  | v :: vs,n,k=>by
    unfold Zoq
    split
    · rename_i sz
      simp only[Zcg]
      cases h:Nat.blt 0 sz with
      | true=>simp only[ZeD,cond_true];exact Zkk vs (n+1) _
      | false=>exact Zkk vs n _
    · rename_i h
      rw[Zkk vs n]
      cases v<;>first | rfl | exact absurd rfl (h _)
def ZpJ (n:Nat) (H:Zp) (k:Zp→List Blk→Option β):Option β:=
  match H with
  | []=>k [] []
  | b :: H=>(match b with
    | .cells cs=>Zoq n cs fun cs bs=>Zeu (n+bs.length) fun n1=>ZpJ n1 H fun H q=>k (.cells cs :: H) (bs++q)
    | b=>ZpJ n H fun H q=>k (b :: H) q)
theorem Zow:∀(H:Zp) (n:Nat) (k:Zp→List Blk→Option β),ZpJ n H k=k (ZcX n H).1 (ZcX n H).2
  | [],n,k=>rfl
  | b :: H,n,k=>by
    unfold ZpJ
    cases b<;>first | exact Zow H n _ | skip
    rename_i cs
    simp only[Zkk,ZeD,ZcX]
    exact Zow H _ _
def ZrZ (m:Nat) (vs:List V) (H:Zp) (k:List V→Zp→Option β):Option β:=
  Zhd m vs H fun _ vs1 H1=>Zoq H1.length vs1 fun vs2 bs=>Zeu (H1.length+bs.length) fun n=>ZpJ n H1 fun H2 q=>Zmg (H2++(bs++q)) fun H2=>Zhd m vs2 H2 fun _ vs3 H3=>k vs3 H3
theorem ZvE (m:Nat) (vs:List V) (H:Zp) (k:List V→Zp→Option β):ZrZ m vs H k=(match Zq3 m vs H with | some (vs,H)=>k vs H | none=>none):=by
  unfold ZrZ Zq3
  rw[ZdU]
  cases h:extract m vs H with
  | none=>rfl
  | some p=>
    obtain⟨L,vs1,H1⟩:=p
    simp only[Zkk,ZeD,Zow,ZkJ,ZdU]
    cases extract m (Zcg H1.length vs1).1 ((ZcX (H1.length+(Zcg H1.length vs1).2.length) H1).1++((Zcg H1.length vs1).2++(ZcX (H1.length+(Zcg H1.length vs1).2.length) H1).2))<;>rfl
noncomputable def br (c:Bool) (x y:Option β):Option β:=@ite _ (c=true) (Classical.propDecidable _) x y
theorem ZeP (c:Bool) (x y:Option β):br c x y=bif c then x else y:=by
  unfold br
  cases c with
  | true=>exact if_pos rfl
  | false=>exact if_neg (by simp)
def brL (c:Bool) (x y:Option β):Option β:=match c with | true=>x | false=>y
noncomputable def ZmG (c:Bool) (k:V→Option β):Option β:=br c (k (.d (.bool true))) (k (.d (.bool false)))
theorem Zku (c:Bool) (k:V→Option β):ZmG c k=k (.d (.bool c)):=by
  unfold ZmG
  rw[ZeP]
  cases c<;>rfl
noncomputable def Ztj (v:V) (k:V→Option β):Option β:=match v with | .d (.bool c)=>ZmG c k | v=>k v
theorem ZvS (v:V) (k:V→Option β):Ztj v k=k v:=by
  unfold Ztj
  split
  · exact Zku _ _
  · rfl
noncomputable def ZBU (x:D) (k:V→Option β):Option β:=match x with | .bool c=>ZmG c k | .tup ts=>k (.tup (ZcZ ts)) | x=>k (.d x)
abbrev K3 (β:Type):=V→List (Nat×Blk)→List Blk→Option β
noncomputable def ZCK (op:BinOp) (x y:V) (k:V→Option β):Option β:=
  match op,x,y with
  | .quo,.d (.int i a),.d (.int j b)=>(match i==j with | true=>br (b==0) none (k (.d (.int i (i.wrap (a.tdiv b))))) | false=>none)
  | .rem,.d (.int i a),.d (.int j b)=>(match i==j with | true=>br (b==0) none (k (.d (.int i (a.tmod b)))) | false=>none)
  | .shl,.d (.int i a),.d (.int _ b)=>br (decide (b<0)) none (k (.d (.int i (i.wrap (a*2 ^ (min b.toNat i.bits))))))
  | .shr,.d (.int i a),.d (.int _ b)=>br (decide (b<0)) none (k (.d (.int i (a.fdiv (2 ^ (min b.toNat i.bits))))))
  | op,x,y=>match Zqw op x y with | some (.bool c)=>ZmG c k | some r=>k (.d r) | none=>none
noncomputable def Zxq (H:Zp) (n:Nat) (ag:Bool) (x:V) (k:V→Option β):Option β:=
  match x with
  | .eptr b sz i j=>(match nth H b with
    | some (.arr sz' xs)=>(match Nat.beq sz sz' with
      | true=>bnd (nth xs i) fun x=>(match Zdv n ag (ZcZ (x.cells.drop j)) with | some v=>Ztj v k | none=>none)
      | false=>none)
    | _=>none)
  | x=>match ZdK H n ag x with | some v=>Ztj v k | none=>none
noncomputable def Zxa (H:Zp) (n:Nat) (x v:V) (k:K3 β):Option β:=
  match x with
  | .eptr b sz i j=>(match nth H b with
    | some (.arr sz' xs)=>(match Nat.beq sz sz' with
      | true=>bnd (nth xs i) fun x=>(match fr H 6 v with
        | some (y,ks)=>(match Zj8 ks b with
          | true=>none
          | false=>(match Nat.beq y.cells.length n&&Nat.ble (j+n) x.cells.length&&(V.d y).okb&&(x.isAgg || !y.isAgg) with
            | true=>bnd (some (Zf9 xs i (bif x.isAgg then .agg (Zay x.cells j y.cells) else y))) fun zs=>k .bad ((b,.arr sz zs) :: ks.map (fun j=>(j,.dead))) []
            | false=>none))
        | none=>none)
      | false=>none)
    | _=>none)
  | x=>match ZoO H n x v with | some (a,b,c)=>k a b c | none=>none
noncomputable def Zt6 (nid:Nat) (H:Zp) (sz:Nat) (x y:V) (k:K3 β):Option β:=
  match elems H y with
  | none=>none
  | some ys=>
    br (Zme sz ys 0) (match x with
    | .nilsl _=>br (Nat.ble ys.length lim) (bnd (some ys) fun zs=>k (.sl nid sz) [] [.arr sz zs]) none
    | .sl b sz'=>(match nth H b with
      | some (.arr sz'' xs)=>(match Nat.beq sz sz'&&Nat.beq sz sz'' with
        | true=>br (Nat.ble (xs.length+ys.length) lim) (bnd (some (xs++ys)) fun zs=>k (.sl nid sz) [(b,.dead)] [.arr sz zs]) none
        | false=>none)
      | _=>none)
    | .slp b sz' o len=>(match nth H b with
      | some (.arr sz'' xs)=>(match Nat.beq sz sz'&&Nat.beq sz sz'' with
        | true=>br (Nat.ble (o+len+ys.length) xs.length) (bnd (some (xs.take (o+len)++(ys++xs.drop (o+len+ys.length)))) fun zs=>bnd (some (len+ys.length)) fun n=>k (.slp b sz o n) [(b,.arr sz zs)] []) none
        | false=>none)
      | _=>none)
    | _=>none) none
noncomputable def Zpk (H:Zp) (sz:Nat) (x y:V) (k:V→Option β):Option β:=
  match x with
  | .nilsl _=>(match elems H y with
    | some ys=>br (Zme sz ys 0) (br (Nat.ble ys.length lim) (bnd (some ys) fun zs=>k (.d (.list true zs))) none) none
    | none=>none)
  | _=>none
noncomputable def Zse (v:Option V) (dflt:Nat) (k:Nat→Option β):Option β:=
  match v with
  | none=>k dflt
  | some (.d (.int _ n))=>br (decide (0≤n)) (k n.toNat) none
  | _=>none
noncomputable def Zue (H:Zp) (sz:Nat) (x:V) (lo hi mx:Option V) (k:V→Option β):Option β:=
  match elems H x with
  | none=>none
  | some xs=>
    Zse lo 0 fun l=>Zse hi xs.length fun h=>
      br (Nat.ble l h&&Nat.ble h xs.length)
        (match mx with
        | none=>(match x with
          | .d (.list own _)=>br (Nat.beq l 0 || Zme sz xs l) (bnd (some ((xs.drop l).take (h-l))) fun zs=>k (.d (.list own zs))) none
          | .sl b sz'=>(match Nat.beq sz sz' with | true=>bnd (some l) fun l'=>bnd (some (h-l)) fun n=>k (.slp b sz l' n) | false=>none)
          | .slp b sz' o _=>(match Nat.beq sz sz' with | true=>bnd (some (o+l)) fun l'=>bnd (some (h-l)) fun n=>k (.slp b sz l' n) | false=>none)
          | .nilsl _=>k (.nilsl sz)
          | _=>none)
        | some m=>Zse (some m) 0 fun m=>br (Nat.beq m l&&Nat.beq m h) (k (.nilsl sz)) none)
        none
noncomputable def Zui (H:Zp) (sz:Nat) (x i:V) (k:V→Option β):Option β:=
  match i with
  | .d (.int _ i)=>(match x with
    | .d (.list _ xs)=>bnd (ZA xs i) fun x=>(match Nat.beq x.cells.length sz&&(V.d x).okb with | true=>k (.d (.rptr x.cells)) | false=>none)
    | .sl b sz'=>(match nth H b with
      | some (.arr sz'' xs)=>(match Nat.beq sz sz'&&Nat.beq sz sz'' with | true=>bnd (ZA xs i) fun _=>k (.eptr b sz i.toNat 0) | false=>none)
      | _=>none)
    | .slp b sz' o len=>(match nth H b with
      | some (.arr sz'' xs)=>(match Nat.beq sz sz'&&Nat.beq sz sz'' with | true=>bnd (ZA ((xs.drop o).take len) i) fun _=>k (.eptr b sz (o+i.toNat) 0) | false=>none)
      | _=>none)
    | _=>none)
  | _=>none
noncomputable def Zt4 (len sz:Nat) (ag:Bool) (x i:V) (k:V→Option β):Option β:=
  match i with
  | .d (.int _ i)=>br (x.isAggV&&(decide (0≤i)&&decide (i<len))) (bnd (Zdv sz ag (x.cells.drop (i.toNat*sz))) k) none
  | _=>none
noncomputable def Zra (H:Zp) (len sz:Nat) (x i:V) (k:V→Option β):Option β:=
  match i with
  | .d (.int _ i)=>br (decide (0≤i)&&decide (i<len)) (match Zlh H (i.toNat*sz) x with | some v=>k v | none=>none) none
  | _=>none
noncomputable def Zrj (x i:V) (k:V→Option β):Option β:=
  match x,i with
  | .d (.str s),.d (.int _ i)=>br (decide (0≤i)) (bnd s[i.toNat]? fun b=>k (.d (.int .u8 b.toNat))) none
  | _,_=>none
noncomputable def ZsU (k:V→Option β) (r:V×Zp):Option β:=match fr r.2 6 r.1 with | some (x,_)=>ZBU x k | none=>none
noncomputable def ZqG (Γ:Ctx) (cf:Zbs) (nid:Nat) (H:Zp) (f:Nat) (args:List V) (k:K3 β):Option β:=
  match Γ.mode f with
  | 0=>(match fzs H args with
    | some l=>ZjI (ZcZ l) fun l=>bnd (cf f l []) (ZsU fun v=>k v [] [])
    | none=>none)
  | 1=>(match fzs H args with
    | some l=>ZjI (ZcZ l) fun l=>bnd (cf f l []) fun r=>(match ZsV r.1&&Zn7 r.2 with | true=>k (Zph (fun j=>some (nid+j)) r.1) [] (r.2.map (ZiC (fun j=>some (nid+j)))) | false=>none)
    | none=>none)
  | _ => (Zhd 0 args H fun L args' H0 => bnd (cf f args' H0) fun r => (match ZnZ r.1 && Zkg r.2 with
        | true=>k (Zph (fun j=>match nth L j with | some b=>some b | none=>some (nid+(j-L.length))) r.1)
          (L.zip (r.2.map (ZiC (fun j=>match nth L j with | some b=>some b | none=>some (nid+(j-L.length))))))
          ((r.2.drop L.length).map (ZiC (fun j=>match nth L j with | some b=>some b | none=>some (nid+(j-L.length)))))
        | false=>none))
noncomputable def ZuQ (H:Zp) (ks:List Bool) (m k v:V) (kk:K3 β):Option β:=
  match m,k,v with
  | .mp b,.d k,.d y=>(match nth H b with
    | some (.mp es)=>(match ZdS ks k&&Ziv y with | true=>bnd (Zka es k y) fun l=>kk .bad [(b,.mp l)] [] | false=>none)
    | _=>none)
  | _,_,_=>none
noncomputable def ZuL (H:Zp) (ks:List Bool) (z:D) (m k:V) (kk:K3 β):Option β:=
  match m,k with
  | .mp b,.d k=>(match nth H b with
    | some (.mp es)=>(match ZdS ks k with | true=>bnd (ZBn es k z) fun y=>kk (.d y) [] [] | false=>none)
    | _=>none)
  | _,_=>none
noncomputable def opK (Γ:Ctx) (cf:Zbs) (e:Env) (nid:Nat) (H:Zp) (o:O) (k:K3 β):Option β:=
  match o with
  | .mov x=>k (x.val e) [] []
  | .pick c a b=>(match c.val e with | .d (.bool t)=>brL t (k (a.val e) [] []) (k (b.val e) [] []) | _=>none)
  | .load n ag x=>Zxq H n ag (x.val e) fun v=>k v [] []
  | .store n x v=>Zxa H n (x.val e) (v.val e) k
  | .bin op x y=>ZCK op (x.val e) (y.val e) fun v=>k v [] []
  | .slice sz x lo hi mx=>Zue H sz (x.val e) (lo.map (·.val e)) (hi.map (·.val e)) (mx.map (·.val e)) fun v=>k v [] []
  | .iaddr sz x i=>Zui H sz (x.val e) (i.val e) fun v=>k v [] []
  | .index len sz ag x i=>Zt4 len sz ag (x.val e) (i.val e) fun v=>k v [] []
  | .iaddrA len sz x i=>Zra H len sz (x.val e) (i.val e) fun v=>k v [] []
  | .indexS x i=>Zrj (x.val e) (i.val e) fun v=>k v [] []
  | .append sz x y=>Zt6 nid H sz (x.val e) (y.val e) k
  | .appendD sz x y=>Zpk H sz (x.val e) (y.val e) fun v=>k v [] []
  | .eqv ks neg x y=>(match x.val e,y.val e with
    | .d a,.d b=>(match ZdS ks a with | true=>(match eqD a b with | some r=>ZmG (bif neg then !r else r) fun v=>k v [] [] | none=>none) | false=>none)
    | _,_=>none)
  | .un .not x=>(match x.val e with | .d (.bool b)=>brL b (k (.d (.bool false)) [] []) (k (.d (.bool true)) [] []) | _=>none)
  | .extract x i=>(match x.val e with
    | .tup vs=>(match nth vs i with | some (.d (.bool c))=>ZmG c fun v=>k v [] [] | some v=>k v [] [] | none=>none)
    | .d (.tup vs)=>(match nth vs i with | some (.bool c)=>ZmG c fun v=>k v [] [] | some v=>k (.d v) [] [] | none=>none)
    | _=>none)
  | .mkslice sz z n c=>(match n.val e,c.val e with
    | .d (.int _ n),.d (.int _ c)=>br (decide (0≤n)&&decide (n≤lim)&&decide (n==c))
        (bnd (some (List.replicate n.toNat (match z with | [x]=>x | z=>.agg z))) fun zs=>k (.sl nid sz) [] [.arr sz zs]) none
    | _,_=>none)
  | .len x=>(match elems H (x.val e) with | some xs=>bnd (some (xs.length:Int)) fun n=>k (.d (.int .i64 n)) [] [] | none=>none)
  | .call f args=>ZqG Γ cf nid H f (vals e args) k
  | .callv x args=>(match Zlx (x.val e) with | some (f,caps)=>(match Zhq Γ (x.val e) f caps with | true=>none | false=>ZqG Γ cf nid H f (vals e args++caps) k) | none=>none)
  | .invoke tab x args=>(match x.val e with
    | .d (.iface t y)=>(match Zoa tab t with | some f=>ZqG Γ cf nid H f (.d y :: vals e args) k | none=>none)
    | _=>none)
  | .callk f args _=>ZqG Γ cf nid H f (vals e args) k
  | .spec id args=>(match H,Zmy (vals e args) with | [],some l=>bnd (ZlT id l) fun r=>k (.d r) [] [] | _,_=>none)
  | .nilq x=>(match elems H (x.val e) with | some xs=>br (Nat.blt 0 xs.length) (k (.d (.bool false)) [] []) none | none=>none)
  | .mapset ks m x v=>ZuQ H ks (m.val e) (x.val e) (v.val e) k
  | .mapget ks z m x=>ZuL H ks z (m.val e) (x.val e) k
  | o=>match opE Γ cf e nid H o with | some (v,up,nw)=>Ztj v fun v=>k v up nw | none=>none
def on3 (x:Res) (k:K3 β):Option β:=match x with | some (v,up,nw)=>k v up nw | none=>none
theorem ZpB (Γ:Ctx) (cf:Zbs) (nid:Nat) (H:Zp) (f:Nat) (args:List V) (k:K3 β):ZqG Γ cf nid H f args k=on3 (Zhn Γ cf nid H f args) k:=by
  unfold ZqG Zhn
  generalize Γ.mode f=m
  match m with
  | 0=>
    dsimp only
    simp only[ZfP]
    cases h1:fzs H args with
    | none=>rfl
    | some l=>
      simp only[Zje]
      cases h2:cf f (ZcZ l) [] with
      | none=>rfl
      | some r=>
        obtain⟨v,H1⟩:=r
        dsimp only[ZsU]
        cases h3:fr H1 6 v with
        | none=>rfl
        | some q => obtain ⟨x, ks⟩ := q; cases x <;> try rfl
                    exact Zku _ (fun v=>k v [] [])
  | 1=>
    dsimp only
    simp only[ZfP]
    cases h1:fzs H args with
    | none=>rfl
    | some l=>
      simp only[Zje]
      cases h2:cf f (ZcZ l) [] with
      | none=>rfl
      | some r=>
        dsimp only
        cases h3:(ZsV r.1&&Zn7 r.2)<;>rfl
  | m+2=>
    dsimp only
    simp only[ZfP]
    rw[ZdU]
    cases h1:extract 0 args H with
    | none=>rfl
    | some q=>
      obtain⟨L,args',H0⟩:=q
      dsimp only
      cases h2:cf f args' H0 with
      | none=>rfl
      | some r=>
        dsimp only
        cases h3:(ZnZ r.1&&Zkg r.2)<;>rfl
theorem ZCr (op:BinOp) (x y:V) (k:V→Option β):ZCK op x y k=(match Zqw op x y with | some r=>k (.d r) | none=>none):=by
  unfold ZCK
  split
  · rename_i i a j b
    simp only[Zqw,ZCY]
    cases h:(i==j)<;>simp only[cond_true,cond_false,ZeP]
    cases h2:(b==0)<;>rfl
  · rename_i i a j b
    simp only[Zqw,ZCY]
    cases h:(i==j)<;>simp only[cond_true,cond_false,ZeP]
    cases h2:(b==0)<;>rfl
  · rename_i i a j b
    simp only[Zqw,shI,ZeP]
    cases h:decide (b<0)<;>rfl
  · rename_i i a j b
    simp only[Zqw,shI,ZeP]
    cases h:decide (b<0)<;>rfl
  · cases h:Zqw op x y with
    | none=>rfl
    | some r => cases r <;> try rfl
                exact Zku _ _
theorem ZAf (H:Zp) (n:Nat) (ag:Bool) (x:V) (k:V→Option β):Zxq H n ag x k=(match ZdK H n ag x with | some v=>k v | none=>none):=by
  unfold Zxq
  simp only[ZfP]
  simp only[ZvS]
  split
  · rename_i b sz i j
    simp only[ZdK]
    cases h:nth H b with
    | none=>rfl
    | some blk=>
      cases blk<;>try rfl
      rename_i sz' xs
      dsimp only
      cases h2:Nat.beq sz sz'<;>simp only[cond_true,cond_false]
      cases h3:nth xs i<;>rfl
  · rfl
theorem ZyC (H:Zp) (n:Nat) (x v:V) (k:K3 β):Zxa H n x v k=on3 (ZoO H n x v) k:=by
  unfold Zxa
  simp only[ZfP]
  split
  · rename_i b sz i j
    simp only[ZoO]
    cases h:nth H b with
    | none=>rfl
    | some blk=>
      cases blk<;>try rfl
      rename_i sz' xs
      dsimp only
      cases h2:Nat.beq sz sz'<;>simp only[cond_true,cond_false]<;>try rfl
      cases h3:nth xs i with
      | none=>rfl
      | some x=>
        cases h4:fr H 6 v with
        | none=>rfl
        | some q=>
          obtain⟨y,ks⟩:=q
          dsimp only
          cases h5:Zj8 ks b<;>simp only[cond_true,cond_false]<;>try rfl
          cases h6:(Nat.beq y.cells.length n&&Nat.ble (j+n) x.cells.length&&(V.d y).okb&&(x.isAgg || !y.isAgg))<;>rfl
  · rfl
theorem Zwg (nid:Nat) (H:Zp) (sz:Nat) (x y:V) (k:K3 β):Zt6 nid H sz x y k=on3 (Zm7 nid H sz x y) k:=by
  unfold Zt6 Zm7
  cases h:elems H y with
  | none=>rfl
  | some ys=>
    simp only[ZeP,ZmY]
    cases h0:Zme sz ys 0<;>simp only[cond_true,cond_false]<;>try rfl
    cases x<;>try rfl
    · rename_i b sz'
      dsimp only
      cases h1:nth H b with
      | none=>rfl
      | some blk=>
        cases blk<;>try rfl
        rename_i sz'' xs
        dsimp only
        cases h2:(Nat.beq sz sz'&&Nat.beq sz sz'')<;>simp only[cond_true,cond_false]<;>try rfl
        cases h3:Nat.ble (xs.length+ys.length) lim<;>rfl
    · rename_i b sz' o len
      dsimp only
      cases h1:nth H b with
      | none=>rfl
      | some blk=>
        cases blk<;>try rfl
        rename_i sz'' xs
        dsimp only
        cases h2:(Nat.beq sz sz'&&Nat.beq sz sz'')
        · simp only[Bool.false_and,cond_false];rfl
        · simp only[Bool.true_and,ZeP]
          cases h3:Nat.ble (o+len+ys.length) xs.length<;>rfl
    · dsimp only
      cases h3:Nat.ble ys.length lim<;>rfl
theorem Zwb (H:Zp) (sz:Nat) (x y:V) (k:V→Option β):Zpk H sz x y k=(match ZjC H sz x y with | some v=>k v | none=>none):=by
  unfold Zpk ZjC
  cases x<;>try rfl
  dsimp only
  cases h:elems H y with
  | none=>rfl
  | some ys=>
    simp only[ZeP,ZmY]
    cases h0:Zme sz ys 0<;>cases h1:Nat.ble ys.length lim<;>rfl
theorem Zzb (v:Option V) (d:Nat) (k:Nat→Option β):Zse v d k=(match Ziq v d with | some n=>k n | none=>none):=by
  unfold Zse Ziq
  cases v with
  | none=>rfl
  | some v=>
    cases v<;>try rfl
    rename_i x
    cases x<;>try rfl
    rename_i i n
    dsimp only
    rw[ZeP]
    cases h:decide (0≤n)<;>rfl
theorem ZyP (H:Zp) (sz:Nat) (x:V) (lo hi mx:Option V) (k:V→Option β):Zue H sz x lo hi mx k=(match Zjx H sz x lo hi mx with | some v=>k v | none=>none):=by
  unfold Zue Zjx
  cases h:elems H x with
  | none=>rfl
  | some xs=>
    simp only[Zzb]
    cases h1:Ziq lo 0 with
    | none=>rfl
    | some l=>
      cases h2:Ziq hi xs.length with
      | none=>rfl
      | some hh=>
        simp only[ZeP,ZmY]
        cases h3:(Nat.ble l hh&&Nat.ble hh xs.length)<;>simp only[cond_true,cond_false]
        cases mx with
        | none=>
          cases x<;>try rfl
          · rename_i x
            cases x<;>try rfl
            dsimp only
            cases h4:(Nat.beq l 0 || Zme sz xs l)<;>rfl
          · rename_i b sz'
            dsimp only
            cases h4:Nat.beq sz sz'<;>rfl
          · rename_i b sz' o len
            dsimp only
            cases h4:Nat.beq sz sz'<;>rfl
        | some m=>
          dsimp only
          cases h4:Ziq (some m) 0 with
          | none=>rfl
          | some m=>
            dsimp only
            cases h5:(Nat.beq m l&&Nat.beq m hh)<;>rfl
theorem Zze (H:Zp) (sz:Nat) (x i:V) (k:V→Option β):Zui H sz x i k=(match ZiS H sz x i with | some v=>k v | none=>none):=by
  unfold Zui ZiS
  simp only[ZfP]
  cases i<;>try rfl
  rename_i i
  cases i<;>try rfl
  rename_i ki i
  cases x<;>try rfl
  · rename_i x
    cases x<;>try rfl
    rename_i own xs
    dsimp only
    cases h:ZA xs i with
    | none=>rfl
    | some x=>
      dsimp only
      cases h2:(Nat.beq x.cells.length sz&&(V.d x).okb)<;>rfl
  · rename_i b sz'
    dsimp only
    cases h1:nth H b with
    | none=>rfl
    | some blk=>
      cases blk<;>try rfl
      rename_i sz'' xs
      dsimp only
      cases h2:(Nat.beq sz sz'&&Nat.beq sz sz'')<;>simp only[cond_true,cond_false]
      cases h:ZA xs i<;>rfl
  · rename_i b sz' o len
    dsimp only
    cases h1:nth H b with
    | none=>rfl
    | some blk=>
      cases blk<;>try rfl
      rename_i sz'' xs
      dsimp only
      cases h2:(Nat.beq sz sz'&&Nat.beq sz sz'')<;>simp only[cond_true,cond_false]
      cases h:ZA ((xs.drop o).take len) i<;>rfl
theorem ZyJ (len sz:Nat) (ag:Bool) (x i:V) (k:V→Option β):Zt4 len sz ag x i k=(match ZoV len sz ag x i with | some v=>k v | none=>none):=by
  unfold Zt4 ZoV
  cases i<;>try rfl
  rename_i i
  cases i<;>try rfl
  rename_i ki i
  dsimp only
  rw[ZeP,ZfP]
  cases (x.isAggV&&(decide (0≤i)&&decide (i<(len:Int)))) with
  | false=>rfl
  | true=>simp only[cond_true];cases Zdv sz ag (List.drop (i.toNat*sz) x.cells)<;>rfl
theorem Zwr (H:Zp) (len sz:Nat) (x i:V) (k:V→Option β):Zra H len sz x i k=(match Zhb H len sz x i with | some v=>k v | none=>none):=by
  unfold Zra Zhb
  cases i<;>try rfl
  rename_i i
  cases i<;>try rfl
  rename_i ki i
  dsimp only
  rw[ZeP]
  cases (decide (0≤i)&&decide (i<(len:Int)))<;>rfl
theorem Zwj (x i:V) (k:V→Option β):Zrj x i k=(match Zlk x i with | some v=>k v | none=>none):=by
  unfold Zrj Zlk
  cases x<;>try rfl
  rename_i x
  cases x<;>try rfl
  rename_i s
  cases i<;>try rfl
  rename_i i
  cases i<;>try rfl
  rename_i ki i
  dsimp only
  rw[ZeP,ZfP]
  cases decide (0≤i) with
  | false=>rfl
  | true=>simp only[cond_true];cases s[i.toNat]?<;>rfl
theorem ZxD (x:Res) (k:K3 β):(match x with | some (v,up,nw)=>Ztj v fun v=>k v up nw | none=>none)=on3 x k:=by
  cases x with
  | none=>rfl
  | some q=>exact ZvS _ _
theorem ZwT (H:Zp) (ks:List Bool) (m x v:V) (k:K3 β):ZuQ H ks m x v k=on3 (Zo3 H ks m x v) k:=by
  unfold ZuQ Zo3
  cases m<;>try rfl
  cases x<;>try rfl
  cases v<;>try rfl
  rename_i b x y
  dsimp only
  cases hb:nth H b with
  | none=>rfl
  | some blk=>
    cases blk<;>try rfl
    rename_i es
    dsimp only
    cases hk:(ZdS ks x&&Ziv y) with
    | false=>rfl
    | true=>
      dsimp only
      rw[ZfP]
      cases hs:Zka es x y<;>rfl
theorem Zxd (H:Zp) (ks:List Bool) (z:D) (m x:V) (k:K3 β):ZuL H ks z m x k=on3 (match Znl H ks z m x with | some r=>Zdt (.d r) | none=>none) k:=by
  unfold ZuL Znl
  cases m<;>try rfl
  cases x<;>try rfl
  rename_i b x
  dsimp only
  cases hb:nth H b with
  | none=>rfl
  | some blk=>
    cases blk<;>try rfl
    rename_i es
    dsimp only
    cases hk:ZdS ks x with
    | false=>rfl
    | true=>
      dsimp only
      rw[ZfP]
      cases hs:ZBn es x z<;>rfl
theorem Zun (Γ:Ctx) (cf:Zbs) (e:Env) (nid:Nat) (H:Zp) (o:O) (k:K3 β):opK Γ cf e nid H o k=on3 (opE Γ cf e nid H o) k:=by
  cases o<;>try (first | rfl | exact ZxD _ _)
  · rename_i c a b
    show(match c.val e with | .d (.bool t)=>brL t (k (a.val e) [] []) (k (b.val e) [] []) | _=>none)=on3 (match c.val e with | .d (.bool t)=>Zdt (bif t then a.val e else b.val e) | _=>none) k
    cases c.val e<;>try rfl
    rename_i x
    cases x<;>try rfl
    rename_i t
    cases t<;>rfl
  · rename_i n ag x
    show Zxq H n ag (x.val e) (fun v=>k v [] [])=on3 (match ZdK H n ag (x.val e) with | some v=>Zdt v | none=>none) k
    rw[ZAf]
    cases h:ZdK H n ag (x.val e)<;>rfl
  · exact ZyC _ _ _ _ _
  · rename_i op x y
    show ZCK op (x.val e) (y.val e) (fun v=>k v [] [])=on3 (match Zqw op (x.val e) (y.val e) with | some r=>Zdt (.d r) | none=>none) k
    rw[ZCr]
    cases h:Zqw op (x.val e) (y.val e)<;>rfl
  · rename_i ks neg x y
    show(match x.val e,y.val e with
      | .d a,.d b=>(match ZdS ks a with | true=>(match eqD a b with | some r=>ZmG (bif neg then !r else r) (fun v=>k v [] []) | none=>none) | false=>none)
      | _,_=>none)=on3 (match x.val e,y.val e with
      | .d a,.d b=>(match ZdS ks a with | true=>(match eqD a b with | some r=>Zdt (.d (.bool (bif neg then !r else r))) | none=>none) | false=>none)
      | _,_=>none) k
    cases x.val e<;>try rfl
    rename_i a
    cases y.val e<;>try rfl
    rename_i b
    dsimp only
    cases hn:ZdS ks a<;>try rfl
    dsimp only
    cases h:eqD a b with
    | none=>rfl
    | some r=>exact Zku _ _
  · rename_i op x
    cases op<;>try (first | rfl | exact ZxD _ _)
    show(match x.val e with | .d (.bool b)=>brL b (k (.d (.bool false)) [] []) (k (.d (.bool true)) [] []) | _=>none)=on3 (match unE .not (x.val e) with | some r=>Zdt (.d r) | none=>none) k
    cases x.val e<;>try rfl
    rename_i a
    cases a<;>try rfl
    rename_i b
    cases b<;>rfl
  · rename_i f caps
    cases caps<;>rfl
  · rename_i sz z n c
    show(match n.val e,c.val e with
      | .d (.int _ n),.d (.int _ c)=>br (decide (0≤n)&&decide (n≤lim)&&decide (n==c)) (bnd (some (List.replicate n.toNat (match z with | [x]=>x | z=>.agg z))) fun zs=>k (.sl nid sz) [] [.arr sz zs]) none
      | _,_=>none)=on3 (match n.val e,c.val e with
      | .d (.int _ n),.d (.int _ c)=>bif decide (0≤n)&&decide (n≤lim)&&decide (n==c) then some (.sl nid sz,[],[.arr sz (List.replicate n.toNat (match z with | [x]=>x | z=>.agg z))]) else none
      | _,_=>none) k
    cases n.val e<;>try rfl
    rename_i x
    cases x<;>try rfl
    rename_i i n1
    cases c.val e<;>try rfl
    rename_i x
    cases x<;>try rfl
    rename_i j c1
    dsimp only
    simp only[ZeP,ZmY]
    cases h3:(decide (0≤n1)&&decide (n1≤lim)&&decide (n1==c1))<;>rfl
  · rename_i sz x lo hi mx
    show Zue H sz (x.val e) (lo.map (·.val e)) (hi.map (·.val e)) (mx.map (·.val e)) (fun v=>k v [] [])=on3 (match Zjx H sz (x.val e) (lo.map (·.val e)) (hi.map (·.val e)) (mx.map (·.val e)) with | some v=>Zdt v | none=>none) k
    rw[ZyP]
    cases h:Zjx H sz (x.val e) (lo.map (·.val e)) (hi.map (·.val e)) (mx.map (·.val e))<;>rfl
  · rename_i sz x i
    show Zui H sz (x.val e) (i.val e) (fun v=>k v [] [])=on3 (match ZiS H sz (x.val e) (i.val e) with | some v=>Zdt v | none=>none) k
    rw[Zze]
    cases h:ZiS H sz (x.val e) (i.val e)<;>rfl
  · rename_i len sz ag x i
    show Zt4 len sz ag (x.val e) (i.val e) (fun v=>k v [] [])=on3 (match ZoV len sz ag (x.val e) (i.val e) with | some v=>Zdt v | none=>none) k
    rw[ZyJ]
    cases h:ZoV len sz ag (x.val e) (i.val e)<;>rfl
  · rename_i x i
    show Zrj (x.val e) (i.val e) (fun v=>k v [] [])=on3 (match Zlk (x.val e) (i.val e) with | some v=>Zdt v | none=>none) k
    rw[Zwj]
    cases h:Zlk (x.val e) (i.val e)<;>rfl
  · rename_i len sz x i
    show Zra H len sz (x.val e) (i.val e) (fun v=>k v [] [])=on3 (match Zhb H len sz (x.val e) (i.val e) with | some v=>Zdt v | none=>none) k
    rw[Zwr]
    cases h:Zhb H len sz (x.val e) (i.val e)<;>rfl
  · rename_i x
    show(match elems H (x.val e) with | some xs=>bnd (some (xs.length:Int)) fun n=>k (.d (.int .i64 n)) [] [] | none=>none)=on3 (match Zur H (x.val e) with | some r=>Zdt (.d r) | none=>none) k
    unfold Zur
    cases elems H (x.val e) with
    | none=>rfl
    | some xs=>exact ZmY _ _
  · exact Zwg _ _ _ _ _ _
  · rename_i sz x y
    show Zpk H sz (x.val e) (y.val e) (fun v=>k v [] [])=on3 (match ZjC H sz (x.val e) (y.val e) with | some v=>Zdt v | none=>none) k
    rw[Zwb]
    cases h:ZjC H sz (x.val e) (y.val e)<;>rfl
  · rename_i x i
    show(match x.val e with
      | .tup vs=>(match nth vs i with | some (.d (.bool c))=>ZmG c (fun v=>k v [] []) | some v=>k v [] [] | none=>none)
      | .d (.tup vs)=>(match nth vs i with | some (.bool c)=>ZmG c (fun v=>k v [] []) | some v=>k (.d v) [] [] | none=>none)
      | _=>none)=on3 (match x.val e with
      | .tup vs=>(match nth vs i with | some v=>Zdt v | none=>none)
      | .d (.tup vs)=>(match nth vs i with | some v=>Zdt (.d v) | none=>none)
      | _=>none) k
    cases x.val e<;>try rfl
    · rename_i y
      cases y<;>try rfl
      rename_i vs
      dsimp only
      cases nth vs i with
      | none=>rfl
      | some v => cases v <;> try rfl
                  exact Zku _ _
    · rename_i vs
      dsimp only
      cases nth vs i with
      | none=>rfl
      | some v => cases v <;> try rfl
                  rename_i y
                  cases y<;>try rfl
                  exact Zku _ _
  · exact ZpB _ _ _ _ _ _ _
  · rename_i x args
    show(match Zlx (x.val e) with | some (f,caps)=>(match Zhq Γ (x.val e) f caps with | true=>none | false=>ZqG Γ cf nid H f (vals e args++caps) k) | none=>none)=_
    rw[ZhD]
    cases h:Zlx (x.val e) with
    | none=>rfl
    | some q=>
      obtain⟨f,caps⟩:=q
      dsimp only
      cases hb:Zhq Γ (x.val e) f caps
      · exact ZpB _ _ _ _ _ _ _
      · rfl
  · rename_i tab x args
    show(match x.val e with
      | .d (.iface t y)=>(match Zoa tab t with | some f=>ZqG Γ cf nid H f (.d y :: vals e args) k | none=>none)
      | _=>none)=_
    rw[ZgZ]
    cases h:x.val e<;>try rfl
    rename_i y
    cases y<;>try rfl
    rename_i t y
    dsimp only
    cases h2:Zoa tab t with
    | none=>rfl
    | some f=>exact ZpB _ _ _ _ _ _ _
  · exact ZwT _ _ _ _ _ _
  · exact Zxd _ _ _ _ _ _
  · exact ZpB _ _ _ _ _ _ _
  · rename_i x
    show(match elems H (x.val e) with | some xs=>br (Nat.blt 0 xs.length) (k (.d (.bool false)) [] []) none | none=>none)=on3 (match elems H (x.val e) with | some xs=>(match Nat.blt 0 xs.length with | true=>Zdt (.d (.bool false)) | false=>none) | none=>none) k
    cases elems H (x.val e) with
    | none=>rfl
    | some xs=>
      dsimp only
      rw[ZeP]
      cases Nat.blt 0 xs.length<;>rfl
  · rename_i id args
    show(match H,Zmy (vals e args) with | [],some l=>bnd (ZlT id l) fun r=>k (.d r) [] [] | _,_=>none)=on3 (match H,Zmy (vals e args) with | [],some l=>(match ZlT id l with | some r=>Zdt (.d r) | none=>none) | _,_=>none) k
    cases H<;>cases Zmy (vals e args)<;>try rfl
    rename_i l
    dsimp only
    rw[ZfP]
    cases ZlT id l<;>rfl
def ZqA (e:Env) (g:Option (Nat×Bool)) (x y:Option β):Option β:=
  match g with
  | none=>x
  | some (s,b)=>match e s with | .d (.bool t)=>brL (t==b) x y | .d (.tup [])=>y | _=>none
theorem Ztl (e:Env) (g:Option (Nat×Bool)) (x y:Option β):ZqA e g x y=(match Zgv e g with | some true=>x | some false=>y | none=>none):=by
  unfold ZqA Zgv
  cases g with
  | none=>rfl
  | some p=>
    obtain⟨s,b⟩:=p
    dsimp only
    split<;>rename_i h
    · simp only[h,brL];rename_i t;cases h2:t==b<;>rfl
    · simp only[h]
    · split<;>simp_all
end
section
variable {β:Type}
def ZtE (e:Env) (dst:Option Nat) (H:Zp) (v:V) (up:List (Nat×Blk)) (nw:List Blk) (k:Env→Zp→Option β):Option β:=
  ZtY v fun v=>match dst with
    | some i=>(match up,nw with
      | [],[]=>k (e.set i v) H
      | up,nw=>Zmg (ZeX H up++nw) fun H=>k (e.set i v) H)
    | none=>(match up,nw with
      | [],[]=>k e H
      | up,nw=>Zmg (ZeX H up++nw) fun H=>k e H)
theorem Zvi (e:Env) (dst:Option Nat) (H:Zp) (v:V) (up:List (Nat×Blk)) (nw:List Blk) (k:Env→Zp→Option β):ZtE e dst H v up nw k=k (Zsn e dst v) (ZeX H up++nw):=by
  unfold ZtE
  rw[ZtW]
  cases dst<;>dsimp only[Zsn]
  all_goals
    split
    · simp[ZeX]
    · rw[ZkJ]
def Zvs (e:Env) (dst:Option Nat) (k:Env→Option β):Option β:=match dst with | some i=>k (e.set i (.d (.tup []))) | none=>k e
theorem Zwc (e:Env) (dst:Option Nat) (k:Env→Option β):Zvs e dst k=k (Zsn e dst (.d (.tup []))):=by cases dst<;>rfl
def ZwM:O→Bool
  | .mov _=>true
  | .pick _ _ _=>true
  | .build _ _=>true
  | .bin _ _ _=>true
  | .eqv _ _ _ _=>true
  | .un _ _=>true
  | .conv _ _=>true
  | .mkfn _ _=>true
  | .field _ _ _ _=>true
  | .index _ _ _ _ _=>true
  | .indexS _ _=>true
  | .mx _ _=>true
  | .extract _ _=>true
  | .bslice _ _ 0 _=>true
  | .alloc _=>true
  | .box _=>true
  | _=>false
theorem Zy8 {Γ:Ctx}{cf:Zbs}{e:Env}{nid:Nat}{H H':Zp}{op:O} (h:ZwM op=true):opE Γ cf e nid H op=opE Γ cf e nid H' op:=by
  cases op<;>first | rfl | (cases h;done) | skip
  rename_i sz z len ps
  cases len with
  | zero=>rfl
  | succ n=>cases h
noncomputable def Zys (Γ:Ctx) (cf:Zbs) (l:List Op1) (e:Env) (H:Zp) (k:Env→Zp→Option β):Option β:=
  List.rec (motive:=fun _=>Env→Zp→(Env→Zp→Option β)→Option β) (fun e H k=>k e H)
    (fun o _ ih e H k=>ZqA e o.guard (Zeu H.length fun nid=>opK Γ cf e nid H o.op fun v up nw=>ZtE e o.dst H v up nw fun e H=>ih e H k) (Zvs e o.dst fun e=>ih e H k)) l e H k
theorem ZyA (Γ:Ctx) (cf:Zbs) (o:Op1) (r:List Op1) (e:Env) (H:Zp) (k:Env→Zp→Option β) :
    Zys Γ cf (o :: r) e H k=ZqA e o.guard (Zeu H.length fun nid=>opK Γ cf e nid H o.op fun v up nw=>ZtE e o.dst H v up nw fun e H=>Zys Γ cf r e H k) (Zvs e o.dst fun e=>Zys Γ cf r e H k):=rfl
theorem ZuF (Γ:Ctx) (cf:Zbs):∀(l:List Op1) (e:Env) (H:Zp) (k:Env→Zp→Option β),Zys Γ cf l e H k=(match Zi8 Γ cf l e H with | some (e,H)=>k e H | none=>none)
  | [],e,H,k=>rfl
  | o :: l,e,H,k=>by
    rw[ZyA]
    unfold Zi8
    rw[Ztl,ZeD,Zun,Zwc]
    cases hw:Zgv e o.guard with
    | none=>rfl
    | some b=>
      cases b with
      | false=>exact ZuF Γ cf l _ _ k
      | true=>
        dsimp only
        cases ho:opE Γ cf e H.length H o.op with
        | none=>rfl
        | some q=>obtain⟨v,up,nw⟩:=q;simp only[on3,Zvi];exact ZuF Γ cf l _ _ k
def ZoC (l:List (Nat×Nat)) (k:List (Nat×Nat)→Option β):Option β:=
  match l with
  | []=>k []
  | p :: l=>Zeu p.1 fun a=>Zeu p.2 fun b=>ZoC l fun l=>k ((a,b) :: l)
theorem ZqB:∀(l:List (Nat×Nat)) (k:List (Nat×Nat)→Option β),ZoC l k=k l
  | [],k=>rfl
  | p :: l,k=>by unfold ZoC;rw[ZeD,ZeD,ZqB l]
def ZCx (o:O) (mask:List Nat) (H:Zp) (pos:List (Nat×Nat)) (k:Zp→Option β):Option β:=
  match ZwM o with
  | true=>k H
  | false=>(match mask with | []=>k H | mask=>Zmg (Zhm H pos mask) k)
noncomputable def Zs5 (Γ:Ctx) (cf:Zbs) (pos:List (Nat×Nat)) (l:List Op1) (e:Env) (H:Zp) (k:Env→Zp→Option β):Option β:=
  List.rec (motive:=fun _=>List (Nat×Nat)→Env→Zp→(Env→Zp→Option β)→Option β) (fun _ e H k=>k e H)
    (fun o _ ih pos e H k=>ZqA e o.guard (Zeu H.length fun nid=>ZCx o.op o.mask H pos fun Hm=>opK Γ cf e nid Hm o.op fun v up nw=>
      (match Zrx e H o up nw with | true=>Zeu nw.length fun m=>ZoC (pos++[(nid,m)]) fun pos=>ZtE e o.dst H v up nw fun e' H'=>ih pos e' H' k | false=>none)) (Zvs e o.dst fun e'=>Zeu H.length fun nid=>ZoC (pos++[(nid,0)]) fun pos=>ih pos e' H k)) l pos e H k
theorem ZwE (Γ:Ctx) (cf:Zbs) (pos:List (Nat×Nat)) (o:Op1) (r:List Op1) (e:Env) (H:Zp) (k:Env→Zp→Option β) :
    Zs5 Γ cf pos (o :: r) e H k=ZqA e o.guard (Zeu H.length fun nid=>ZCx o.op o.mask H pos fun Hm=>opK Γ cf e nid Hm o.op fun v up nw=>
      (match Zrx e H o up nw with | true=>Zeu nw.length fun m=>ZoC (pos++[(nid,m)]) fun pos=>ZtE e o.dst H v up nw fun e' H'=>Zs5 Γ cf pos r e' H' k | false=>none)) (Zvs e o.dst fun e'=>Zeu H.length fun nid=>ZoC (pos++[(nid,0)]) fun pos=>Zs5 Γ cf pos r e' H k):=rfl
theorem ZA9 (Γ:Ctx) (cf:Zbs) (e:Env) (nid:Nat) (o:O) (mask:List Nat) (H:Zp) (pos:List (Nat×Nat)) (k:K3 β):(ZCx o mask H pos fun Hm=>opK Γ cf e nid Hm o k)=opK Γ cf e nid (Zhm H pos mask) o k:=by
  unfold ZCx
  cases h:ZwM o with
  | true=>dsimp only;rw[Zun,Zun,Zy8 h (H:=H) (H':=Zhm H pos mask)]
  | false=>
    dsimp only
    cases mask with
    | nil=>rfl
    | cons a l=>dsimp only;rw[ZkJ]
theorem ZsG (Γ:Ctx) (cf:Zbs):∀(l:List Op1) (pos:List (Nat×Nat)) (e:Env) (H:Zp) (k:Env→Zp→Option β),Zs5 Γ cf pos l e H k=(match Zgq Γ cf pos l e H with | some (e,H)=>k e H | none=>none)
  | [],pos,e,H,k=>rfl
  | o :: l,pos,e,H,k=>by
    rw[ZwE]
    unfold Zgq
    rw[Ztl,ZeD,ZA9,Zun,Zwc,ZeD,ZqB]
    cases hw:Zgv e o.guard with
    | none=>rfl
    | some b=>
      cases b with
      | false=>exact ZsG Γ cf l _ _ _ k
      | true=>
        dsimp only
        cases ho:opE Γ cf e H.length (Zhm H pos o.mask) o.op with
        | none=>rfl
        | some q=>
          obtain⟨v,up,nw⟩:=q
          simp only[on3]
          cases hb:(Zrx e H o up nw)<;>simp only[cond_true,cond_false,Zvi,ZeD,ZqB]
          exact ZsG Γ cf l _ _ _ k
noncomputable def lpW (Γ:Ctx) (k:Nat) (live outs:List Nat) (a:C) (vs:List V) (H:Zp):Option (Ex×List V×Zp):=
  itW (fun vs H=>Zfe k live outs (Zav Γ (evW Γ) itW k a (ZeK live vs) H)) vs H
noncomputable def Zj4 (Γ:Ctx) (k0:Nat) (c:C) (e:Env) (H:Zp) (k:Ex→Env→Zp→Option β):Option β:=
  C.rec (motive:=fun _=>Env→Zp→(Ex→Env→Zp→Option β)→Option β)
    (fun e H k=>k .normal e H) (fun e H k=>k .ret e H) (fun id e H k=>k (.exit id) e H)
    (fun _ _ ia ib e H k=>ia e H fun x e H=>(match x with | .normal=>ib e H k | .exit i=>k (.exit i) e H | .ret=>k .ret e H))
    (fun x _ _ ia ib e H k=>(match x.val e with | .d (.bool t)=>brL t (ia e H k) (ib e H k) | _=>none))
    (fun id _ ia e H k=>ia e H fun x e H=>(match x with | .exit j=>(match Nat.beq j id with | true=>k .normal e H | false=>k (.exit j) e H) | .normal=>k .normal e H | .ret=>k .ret e H))
    (fun live outs a _ e H k=>ZrZ k0 (live.map e) H fun vs H=>bnd (lpW Γ k0 live outs a vs H) fun r=>k r.1 (ZeK outs r.2.1) r.2.2)
    (fun l e H k=>Zys Γ (evW Γ) l e H fun e H=>k .normal e H)
    (fun l e H k=>Zs5 Γ (evW Γ) [] l e H fun e H=>k .normal e H) c e H k
theorem Zo1 (Γ:Ctx) (k0:Nat):∀(c:C) (e:Env) (H:Zp) (k:Ex→Env→Zp→Option β),Zj4 Γ k0 c e H k=(match Zav Γ (evW Γ) itW k0 c e H with | some (x,e,H)=>k x e H | none=>none):=by
  intro c
  induction c with
  | skip=>intros;rfl
  | ret=>intros;rfl
  | exit id=>intros;rfl
  | seq a b iha ihb=>
    intro e H k
    show(Zj4 Γ k0 a e H fun x e H=>(match x with | .normal=>Zj4 Γ k0 b e H k | .exit i=>k (.exit i) e H | .ret=>k .ret e H))=_
    unfold Zav
    rw[iha]
    cases h:Zav Γ (evW Γ) itW k0 a e H with
    | none=>rfl
    | some q=>
      obtain⟨x,e1,H1⟩:=q
      cases x with
      | normal=>exact ihb e1 H1 k
      | exit i=>rfl
      | ret=>rfl
  | cond x a b iha ihb=>
    intro e H k
    show(match x.val e with | .d (.bool t)=>brL t (Zj4 Γ k0 a e H k) (Zj4 Γ k0 b e H k) | _=>none)=_
    unfold Zav
    cases h:x.val e<;>try rfl
    rename_i y
    cases y<;>try rfl
    rename_i t
    cases t
    · exact ihb e H k
    · exact iha e H k
  | block id a iha=>
    intro e H k
    show(Zj4 Γ k0 a e H fun x e H=>(match x with | .exit j=>(match Nat.beq j id with | true=>k .normal e H | false=>k (.exit j) e H) | .normal=>k .normal e H | .ret=>k .ret e H))=_
    unfold Zav
    rw[iha]
    cases h:Zav Γ (evW Γ) itW k0 a e H with
    | none=>rfl
    | some q=>
      obtain⟨x,e1,H1⟩:=q
      cases x with
      | normal=>rfl
      | exit j=>dsimp only;cases h2:Nat.beq j id<;>rfl
      | ret=>rfl
  | loop live outs a iha=>
    intro e H k
    show(ZrZ k0 (live.map e) H fun vs H=>bnd (lpW Γ k0 live outs a vs H) fun r=>k r.1 (ZeK outs r.2.1) r.2.2)=_
    unfold Zav
    rw[ZvE]
    cases h:Zq3 k0 (live.map e) H with
    | none=>rfl
    | some q=>
      obtain⟨vs,H1⟩:=q
      simp only[lpW,ZfP]
      cases h2:itW (fun vs H=>Zfe k0 live outs (Zav Γ (evW Γ) itW k0 a (ZeK live vs) H)) vs H1 with
      | none=>rfl
      | some r=>obtain⟨x,vs,H⟩:=r;rfl
  | ops l=>
    intro e H k
    show(Zys Γ (evW Γ) l e H fun e H=>k .normal e H)=_
    unfold Zav
    rw[ZuF]
    cases h:Zi8 Γ (evW Γ) l e H<;>rfl
  | draw l=>
    intro e H k
    show(Zs5 Γ (evW Γ) [] l e H fun e H=>k .normal e H)=_
    unfold Zav
    rw[ZsG]
    cases h:Zgq Γ (evW Γ) [] l e H<;>rfl
theorem ZEc (Γ:Ctx) (k:Nat) (live outs:List Nat) (a:C) (vs:List V) (H:Zp) :
    lpW Γ k live outs a vs H=Zj4 Γ k a (ZeK live vs) H fun x e H=>(match x with
      | .normal=>ZrZ k (live.map e) H fun vs H=>lpW Γ k live outs a vs H
      | x=>Zhd k (outs.map e) H fun _ vs H=>some (x,vs,H)):=by
  unfold lpW
  rw[ZDT,Zo1]
  cases h:Zav Γ (evW Γ) itW k a (ZeK live vs) H with
  | none=>rfl
  | some q=>
    obtain⟨x,e,H1⟩:=q
    cases x with
    | normal=>
      simp only[Zfe]
      rw[ZvE]
      cases h2:Zq3 k (live.map e) H1 with
      | none=>rfl
      | some r=>obtain⟨vs,H2⟩:=r;rfl
    | exit j=>
      simp only[Zfe]
      rw[ZdU]
      cases h2:extract k (outs.map e) H1 with
      | none=>rfl
      | some r=>obtain⟨L,vs,H2⟩:=r;rfl
    | ret=>
      simp only[Zfe]
      rw[ZdU]
      cases h2:extract k (outs.map e) H1 with
      | none=>rfl
      | some r=>obtain⟨L,vs,H2⟩:=r;rfl
theorem Zgp (Γ:Ctx) (f:Nat) (fn:FnI) (args:List V) (H:Zp) (hc:Γ.code f=some fn) (hn:Nat.beq args.length fn.nargs=true) :
    evW Γ f args H=Zj4 Γ H.length fn.body (Zfr 0 args) H fun x e H1=>(match x with
      | .exit _=>none
      | _=>(match Znz e H1 fn.res with
        | some l=>Zhd H.length [Zin l] H1 fun _ vs H2=>(match vs with | [v]=>some (v,H2) | _=>none)
        | none=>none)):=by
  rw[ZEn]
  unfold Zmd
  simp only[hc,hn,cond_true]
  rw[Zo1]
  cases h:Zav Γ (evW Γ) itW H.length fn.body (Zfr 0 args) H with
  | none=>rfl
  | some q=>
    obtain⟨x,e,H1⟩:=q
    cases x<;>try rfl
    all_goals
      dsimp only
      cases h2:Znz e H1 fn.res with
      | none=>rfl
      | some l=>
        dsimp only
        rw[ZdU]
        cases h3:extract H.length [Zin l] H1 with
        | none=>rfl
        | some q=>
          obtain⟨L,vs,H2⟩:=q
          match vs with
          | []=>rfl
          | [v]=>rfl
          | _ :: _ :: _=>rfl
end
theorem ZCO {β:Type} (x y:Option β):br true x y=x:=ZeP _ _ _
theorem ZDc {β:Type} (x y:Option β):br false x y=y:=ZeP _ _ _
theorem Zvl {β:Type} (x:Option β):bnd x some=x:=by rw[ZfP];cases x<;>rfl
attribute [irreducible] br bnd lpW
end Go.Proofs.YtnmbdjkbaihicaaGreatDoorE
namespace Go.Proofs.YtnmbdjkbaihicaaGreatDoorE
open Go
structure ZU where
 op:Int
 arg:Int
 work:Int
 deriving DecidableEq
structure Zn where
 src:Int
 dst:Int
 deriving DecidableEq
structure Zj where
 maker:Int
 user:Int
 pos:Int
 deriving DecidableEq
structure Zs where
 ins:List Int
 outs:List Int
 deriving DecidableEq
structure Zi where
 period:Int
 deadline:Int
 parts:List ZU
 edges:List Zn
 futures:List Zj
 barriers:List Zs
 deriving DecidableEq
abbrev Zb (n:Int):D:=.int .i64 n
abbrev ZxE (τ:Bool) (l:List Int):D:=.list τ (l.map Zb)
abbrev Z5 (p:ZU):D:=.agg [Zb p.op,Zb p.arg,Zb p.work]
abbrev Zx (e:Zn):D:=.agg [Zb e.src,Zb e.dst]
abbrev Zr (f:Zj):D:=.agg [Zb f.maker,Zb f.user,Zb f.pos]
abbrev Zy (b:Zs):D:=.agg [ZxE true b.ins,ZxE true b.outs]
abbrev ZGv (τ:Bool) (d:Zi):D:=.agg [Zb d.period,Zb d.deadline,.list τ (d.parts.map Z5),.list τ (d.edges.map Zx),.list τ (d.futures.map Zr),.list τ (d.barriers.map Zy)]
end Go.Proofs.YtnmbdjkbaihicaaGreatDoorE
namespace Go.Proofs.YtnmbdjkbaihicaaGreatDoorE
open Go
set_option linter.unusedVariables false
set_option linter.unusedSimpArgs false
theorem ZEI {n:Int} (h1 : -9223372036854775808≤n) (h2:n<9223372036854775808):IntKind.i64.wrap n=n:=by
 show(if (true&&decide (n % 18446744073709551616 ≥ 9223372036854775808))=true then n % 18446744073709551616-18446744073709551616 else n % 18446744073709551616)=n
 by_cases h:n % 18446744073709551616 ≥ 9223372036854775808
 ·rw[decide_eq_true h];simp only[Bool.and_self,if_true];omega
 ·rw[decide_eq_false h];simp only[Bool.and_false,Bool.false_eq_true,if_false];omega
theorem ZAi {α:Type} (xs:List α) (i:Nat):ZA xs (i:Int)=xs[i]?:=by
 unfold ZA
 have:decide ((0:Int)≤i)=true:=by simp
 rw[this];simp[Z4]
theorem Z3 (Γ:Ctx) (k:Nat) (live outs:List Nat) (a:C) (vs:List V) (H:Zp) :
  lpW Γ k live outs a vs H=Zj4 Γ k a (ZeK live vs) H fun x e H=>(match x with
   | .normal=>ZrZ k (live.map e) H fun vs H=>bnd (lpW Γ k live outs a vs H) some
   | x=>Zhd k (outs.map e) H fun _ vs H=>some (x,vs,H)):=by
 refine(ZEc Γ k live outs a vs H).trans (congrArg (Zj4 Γ k a (ZeK live vs) H) ?_)
 funext x e H
 cases x
 ·exact congrArg (ZrZ k (live.map e) H) (funext fun vs=>funext fun H=>(Zvl _).symm)
 ·rfl
 ·rfl
theorem ZgK {α:Type}{f:α→D}{sz:Nat} (hf:∀x,(f x).cells.length=sz∧(V.d (f x)).okb=true) (l:List α) (i:Nat):Zme sz (l.map f) i=true:=by
 unfold Zme
 rw[Z4,List.getElem?_map]
 cases l[i]? with
 | none=>rfl
 | some x=>simp[hf x]
theorem ZFB {β:Type}{c:Bool}{x y:Option β} (h:c=true):br c x y=x:=by rw[h,ZCO]
theorem ZGL {β:Type}{c:Bool}{x y:Option β} (h:c=false):br c x y=y:=by rw[h,ZDc]
def first {α:Type} (p:α→Bool):Nat→List α→Option Nat
 | _,[]=>none
 | i,x :: l=>bif p x then some i else first p (i+1) l
theorem ZDU {Γ:Ctx}{f:Nat}{args:List V}{H:Zp}{r:V×Zp} (n:Nat) (h:evN Γ n f args H=some r):evW Γ f args H=some r:=(ZjJ Γ f args H r).2 ⟨n,h⟩
end Go.Proofs.YtnmbdjkbaihicaaGreatDoorE
namespace Go.Proofs.YtnmbdjkbaihicaaGreatDoorE
open Go
set_option linter.unusedVariables false
set_option linter.unusedSimpArgs false
theorem ZuD {α:Type}{f:α→D}{p:α→Prop}:∀{xs:List D},(∀y∈xs,∃a,y=f a∧p a)→∃l:List α,xs=l.map f∧∀a∈l,p a
 | [],_=>⟨[],rfl,by simp⟩
 | x :: xs,h=>by
  obtain⟨a,ha,hp⟩:=h x (by simp)
  obtain⟨l,hl,hq⟩:=ZuD (xs:=xs) fun y hy=>h y (by simp[hy])
  refine⟨a :: l,by rw[ha,hl];rfl,fun b hb=>?_⟩
  rcases List.mem_cons.1 hb with rfl | hb
  ·exact hp
  ·exact hq b hb
def I64 (n:Int):Prop:=-9223372036854775808≤n∧n<9223372036854775808
theorem ZjD {n:Int} (h:(Lit.int .i64 n).wf=true):I64 n:=by
 unfold Lit.wf at h
 simp only[Bool.and_eq_true,decide_eq_true_eq] at h
 have e1:IntKind.i64.min = -9223372036854775808:=by decide
 have e2:IntKind.i64.max=9223372036854775807:=by decide
 rw[e1,e2] at h
 unfold I64
 omega
theorem ZEQ {y:D}{n:Nat} (h:y.isAgg=true):y = .agg y.cells:=by
 cases y<;>first | rfl | cases h
theorem ZCM {y:D} (h:y.isAgg=false):y.cells=[y]:=by
 cases y<;>first | rfl | cases h
theorem ZDA {n:Nat} (h:n≤maxLen):n<9223372036854775808:=by
 unfold maxLen at h;omega
def ZDg (l:List Int):Prop:=l.length<9223372036854775808∧∀n∈l,I64 n
theorem Zt9 {x:D} (h:ZCN (.sl false [.int .i64]) x):∃l,x=ZxE true l∧ZDg l:=by
 obtain⟨xs,rfl,h1,h2⟩:=h
 obtain⟨l,hl,hp⟩:=ZuD (f:=Zb) (p:=I64) (xs:=xs) fun y hy=>by
  obtain⟨a1,a2⟩:=h2 y hy
  rw[ZCM a1] at a2
  obtain⟨d,r,e1,⟨n,e2,e3⟩,_⟩:=a2
  cases e1
  exact⟨n,e2,ZjD e3⟩
 subst hl
 exact⟨l,rfl,by simpa using ZDA h1,hp⟩
def ZAj (p:ZU):Prop:=I64 p.op∧I64 p.arg∧I64 p.work
def ZAN (e:Zn):Prop:=I64 e.src∧I64 e.dst
def Zu3 (f:Zj):Prop:=I64 f.maker∧I64 f.user∧I64 f.pos
def ZtG (b:Zs):Prop:=ZDg b.ins∧ZDg b.outs
structure ZD5 (d:Zi):Prop where
 period:I64 d.period
 deadline:I64 d.deadline
 pl:d.parts.length<9223372036854775808
 p:∀x∈d.parts,ZAj x
 el:d.edges.length<9223372036854775808
 e:∀x∈d.edges,ZAN x
 fl:d.futures.length<9223372036854775808
 f:∀x∈d.futures,Zu3 x
 bl:d.barriers.length<9223372036854775808
 b:∀x∈d.barriers,ZtG x
theorem Zre {x:D}{els:List Lf}{α:Type}{f:α→D}{p:α→Prop} (h:ZCN (.sl true els) x) (hf:∀cs,ZhQ els cs→∃a,D.agg cs=f a∧p a):∃l:List α,x = .list true (l.map f)∧l.length<9223372036854775808∧∀a∈l,p a:=by
 obtain⟨xs,rfl,h1,h2⟩:=h
 obtain⟨l,hl,hp⟩:=ZuD (f:=f) (p:=p) (xs:=xs) fun y hy=>by
  obtain⟨a1,a2⟩:=h2 y hy
  rw[ZEQ (n:=0) a1]
  exact hf _ a2
 subst hl
 exact⟨l,rfl,by simpa using ZDA h1,hp⟩
abbrev ZF7:List Lf:=[.int .i64,.int .i64,.sl true [.int .i64,.int .i64,.int .i64],.sl true [.int .i64,.int .i64],.sl true [.int .i64,.int .i64,.int .i64],.sl true [.sl false [.int .i64],.sl false [.int .i64]]]
theorem ZCd {xs:List D} (h:ZhQ ZF7 xs):∃d,D.agg xs=ZGv true d∧ZD5 d:=by
 obtain⟨x1,r1,rfl,⟨n1,rfl,w1⟩,x2,r2,rfl,⟨n2,rfl,w2⟩,x3,r3,rfl,h3,x4,r4,rfl,h4,x5,r5,rfl,h5,x6,r6,rfl,h6,rfl⟩:=h
 obtain⟨l3,rfl,b3,p3⟩:=Zre (f:=Z5) (p:=ZAj) h3 fun cs hc=>by
  obtain⟨_,_,rfl,⟨a,rfl,wa⟩,_,_,rfl,⟨b,rfl,wb⟩,_,_,rfl,⟨c,rfl,wc⟩,rfl⟩:=hc
  exact⟨⟨a,b,c⟩,rfl,ZjD wa,ZjD wb,ZjD wc⟩
 obtain⟨l4,rfl,b4,p4⟩:=Zre (f:=Zx) (p:=ZAN) h4 fun cs hc=>by
  obtain⟨_,_,rfl,⟨a,rfl,wa⟩,_,_,rfl,⟨b,rfl,wb⟩,rfl⟩:=hc
  exact⟨⟨a,b⟩,rfl,ZjD wa,ZjD wb⟩
 obtain⟨l5,rfl,b5,p5⟩:=Zre (f:=Zr) (p:=Zu3) h5 fun cs hc=>by
  obtain⟨_,_,rfl,⟨a,rfl,wa⟩,_,_,rfl,⟨b,rfl,wb⟩,_,_,rfl,⟨c,rfl,wc⟩,rfl⟩:=hc
  exact⟨⟨a,b,c⟩,rfl,ZjD wa,ZjD wb,ZjD wc⟩
 obtain⟨l6,rfl,b6,p6⟩:=Zre (f:=Zy) (p:=ZtG) h6 fun cs hc=>by
  obtain⟨_,_,rfl,ha,_,_,rfl,hb,rfl⟩:=hc
  obtain⟨a,rfl,wa⟩:=Zt9 ha
  obtain⟨b,rfl,wb⟩:=Zt9 hb
  exact⟨⟨a,b⟩,rfl,wa,wb⟩
 exact⟨⟨n1,n2,l3,l4,l5,l6⟩,rfl,ZjD w1,ZjD w2,b3,p3,b4,p4,b5,p5,b6,p6⟩
end Go.Proofs.YtnmbdjkbaihicaaGreatDoorE
namespace Go.Proofs.YtnmbdjkbaihicaaGreatDoorE
open Go
set_option linter.unusedVariables false
set_option linter.unusedSimpArgs false
def lpN {S R:Type} (step:S→Option (S⊕R)):Nat→S→Option R
 | 0,_=>none
 | n+1,s=>(match step s with | some (.inl s')=>lpN step n s' | some (.inr r)=>some r | none=>none)
theorem Zwp {S R:Type} (step:S→Option (S⊕R)):∀(n m:Nat) (s:S) (r:R),n≤m→lpN step n s=some r→lpN step m s=some r
 | 0,_,_,_,_,h=>by cases h
 | n+1,0,_,_,hm,_=>by omega
 | n+1,m+1,s,r,hm,h=>by
  unfold lpN at h ⊢
  cases hs:step s with
  | none=>rw[hs] at h;cases h
  | some t=>
   rw[hs] at h
   cases t with
   | inl s'=>exact Zwp step n m s' r (by omega) h
   | inr r'=>exact h
noncomputable def lp {S R:Type} (step:S→Option (S⊕R)) (s:S):Option R:=@dite _ (∃n,(lpN step n s).isSome=true) (Classical.propDecidable _) (fun h=>lpN step (Classical.choose h) s) fun _=>none
theorem ZzL {S R:Type}{step:S→Option (S⊕R)}{s:S}{r:R}{n:Nat} (h:lpN step n s=some r):lp step s=some r:=by
 unfold lp
 have hx:∃n,(lpN step n s).isSome=true:=⟨n,by rw[h];rfl⟩
 rw[dif_pos hx]
 have h2:=Classical.choose_spec hx
 cases h3:lpN step (Classical.choose hx) s with
 | none=>rw[h3] at h2;cases h2
 | some q=>
  have h4:=Zwp step _ (max n (Classical.choose hx)) s q (by omega) h3
  have h5:=Zwp step _ (max n (Classical.choose hx)) s r (by omega) h
  rw[h4] at h5
  exact h5
theorem ZBd {S R:Type}{step:S→Option (S⊕R)}{s:S}{r:R} (h:lp step s=some r):∃n,lpN step n s=some r:=by
 unfold lp at h
 split at h
 ·exact⟨_,h⟩
 ·cases h
theorem Zaq {S R:Type} (step:S→Option (S⊕R)) (s:S):lp step s=(match step s with | some (.inl s')=>lp step s' | some (.inr r)=>some r | none=>none):=by
 have key:∀r,lp step s=some r↔(match step s with | some (.inl s')=>lp step s' | some (.inr r)=>some r | none=>none)=some r:=by
  intro r
  constructor
  ·intro h
   obtain⟨n,hn⟩:=ZBd h
   cases n with
   | zero=>cases hn
   | succ n=>
    unfold lpN at hn
    cases hs:step s with
    | none=>rw[hs] at hn;cases hn
    | some t=>
     rw[hs] at hn
     cases t with
     | inl s'=>exact ZzL hn
     | inr r'=>exact hn
  ·intro h
   cases hs:step s with
   | none=>rw[hs] at h;cases h
   | some t=>
    rw[hs] at h
    cases t with
    | inl s'=>
     obtain⟨n,hn⟩:=ZBd h
     exact ZzL (n:=n+1) (by unfold lpN;rw[hs];exact hn)
    | inr r'=>exact ZzL (n:=1) (by unfold lpN;rw[hs];exact h)
 cases h1:lp step s with
 | some r=>exact((key r).1 h1).symm
 | none=>
  cases h2:(match step s with | some (.inl s')=>lp step s' | some (.inr r)=>some r | none=>none) with
  | none=>rfl
  | some r=>rw[(key r).2 h2] at h1;cases h1
theorem ZrX {S R:Type}{step:S→Option (S⊕R)}{s s':S} (h:step s=some (.inl s')):lp step s=lp step s':=by rw[Zaq,h]
theorem ZC3 {S R:Type}{step:S→Option (S⊕R)}{s:S}{r:R} (h:step s=some (.inr r)):lp step s=some r:=by rw[Zaq,h]
noncomputable def Zz0 {R:Type} (g:Nat→Option R):Option R:=@dite _ (∃r:R,∃N,∀n,N≤n→g n=some r) (Classical.propDecidable _) (fun h=>some (Classical.choose h)) fun _=>none
theorem ZC2 {R:Type}{g:Nat→Option R}{r:R} (h:Zz0 g=some r):∃n,g n=some r:=by
 unfold Zz0 at h
 split at h
 ·rename_i hx
  obtain⟨N,hN⟩:=Classical.choose_spec hx
  exact⟨N,(hN N (Nat.le_refl _)).trans h⟩
 ·cases h
theorem ZCj {R:Type}{g:Nat→Option R}{N:Nat}{r:R} (h:∀n,N≤n→g n=some r):Zz0 g=some r:=by
 have hx:∃r:R,∃N,∀n,N≤n→g n=some r:=⟨r,N,h⟩
 unfold Zz0
 rw[dif_pos hx]
 obtain⟨M,hM⟩:=Classical.choose_spec hx
 rw[← hM (max N M) (by omega),h (max N M) (by omega)]
def ZH {α β:Type} (E:Option α) (Q:α→Option β→Prop) (rhs:Option β):Prop:=∀a,E=some a→Q a rhs
section
variable {α β:Type} {A B:Option α} {Q:α→Option β→Prop}
theorem Zd {c c':Bool}{X Y:Option β} (h:c=c') (h1:ZH A Q X) (h2:ZH B Q Y):ZH (bif c' then A else B) Q (br c X Y):=by
 subst h
 cases c with
 | true=>rw[ZCO];exact h1
 | false=>rw[ZDc];exact h2
theorem ZaU {c:Bool}{X Y:Option β} (h:c=true) (h1:ZH A Q X):ZH A Q (br c X Y):=by rw[h,ZCO];exact h1
theorem Zaf {c:Bool}{X Y:Option β} (h:c=false) (h1:ZH A Q Y):ZH A Q (br c X Y):=by rw[h,ZDc];exact h1
theorem Zk {γ:Type}{x x':γ}{K:γ→Option β} (h:x=x') (k:ZH A Q (K x')):ZH A Q (bnd (some x) K):=by rw[h,ZmY];exact k
theorem Zg {γ:Type}{X:Option γ}{x:γ}{K:γ→Option β} (h:X=some x) (k:ZH A Q (K x)):ZH A Q (bnd X K):=by rw[h,ZmY];exact k
theorem Ze {γ δ:Type}{E:Option γ}{A:γ→Option α}{X:Option δ}{K:δ→Option β} (enc:γ→δ) (h:∀r,E=some r→X=some (enc r)) (k:∀r,E=some r→ZH (A r) Q (K (enc r))):ZH (E.bind A) Q (bnd X K):=by
 intro a ha
 cases hE:E with
 | none=>rw[hE] at ha;cases ha
 | some r=>
  rw[hE] at ha
  rw[h r hE,ZmY]
  exact k r hE a ha
theorem Zv0 {γ δ:Type} (f:γ→δ) (l:List γ) (i:Int):ZA (l.map f) i=(ZA l i).map f:=by
 unfold ZA
 cases decide (0≤i) with
 | false=>rfl
 | true=>simp only[cond_true,Z4,List.getElem?_map]
theorem Zl {γ:Type}{f:γ→D}{l:List γ}{xs:List D}{i i':Int}{A:γ→Option α}{K:D→Option β} (hx:xs=l.map f) (hi:i=i') (k:∀r,ZA l i'=some r→ZH (A r) Q (K (f r))):ZH ((ZA l i').bind A) Q (bnd (ZA xs i) K):=by
 subst hx hi
 exact Ze f (fun r h=>by rw[Zv0,h];rfl) k
theorem ZC5 {γ:Type}{f:γ→D}{l:List γ}{xs:List D}{i i':Nat}{A:γ→Option α}{K:D→Option β} (hx:xs=l.map f) (hi:i=i') (k:∀r,l[i']? = some r→ZH (A r) Q (K (f r))):ZH ((l[i']?).bind A) Q (bnd (nth xs i) K):=by
 subst hx hi
 exact Ze f (fun r h=>by rw[Z4,List.getElem?_map,h];rfl) k
theorem ZB {γ:Type}{f:γ→D}{l:List γ}{xs:List D}{i:Int}{r:γ} (hx:xs=l.map f) (h:ZA l i=some r):nth xs i.toNat=some (f r):=by
 subst hx
 unfold ZA at h
 cases hd:decide (0≤i) with
 | false=>rw[hd] at h;cases h
 | true=>rw[hd,cond_true,Z4] at h;rw[Z4,List.getElem?_map,h];rfl
theorem Za3 {γ:Type}{f:γ→D}{l:List γ}{xs:List D}{i:Int}{r:γ} (hx:xs=l.map f) (h:ZA l i=some r):ZA xs i=some (f r):=by
 subst hx
 rw[Zv0,h];rfl
theorem ZhU {γ:Type}{E X:Option γ}{A:γ→Option α}{K:γ→Option β} (h:X=E) (k:∀r,E=some r→ZH (A r) Q (K r)):ZH (E.bind A) Q (bnd X K):=by
 subst h
 exact Ze id (fun r h=>h) k
theorem Zc {a:α}{X:Option β} (h:Q a X):ZH (some a) Q X:=fun b hb=>by cases hb;exact h
theorem ZO {X:Option β}:ZH (none:Option α) Q X:=fun b hb=>by cases hb
theorem ZwF {sz:Nat}{ag:Bool}{cs:List V}{i e:Int}{A0 A1 A2 A3:Option α}{K:V→Option β} (hi:i=e) (h0:ZH A0 Q (bnd (Zdv sz ag (cs.drop ((0:Int).toNat*sz))) K)) (h1:ZH A1 Q (bnd (Zdv sz ag (cs.drop ((1:Int).toNat*sz))) K))
  (h2:ZH A2 Q (bnd (Zdv sz ag (cs.drop ((2:Int).toNat*sz))) K)) (h3:ZH A3 Q (bnd (Zdv sz ag (cs.drop ((3:Int).toNat*sz))) K)) :
  ZH (bif (e==0) then A0 else bif (e==1) then A1 else bif (e==2) then A2 else bif (e==3) then A3 else none) Q (bnd (Zdv sz ag (cs.drop (i.toNat*sz))) K):=by
 subst hi
 by_cases c0:i=0
 ·subst c0;exact h0
 by_cases c1:i=1
 ·subst c1;exact h1
 by_cases c2:i=2
 ·subst c2;exact h2
 by_cases c3:i=3
 ·subst c3;exact h3
 rw[beq_false_of_ne c0,beq_false_of_ne c1,beq_false_of_ne c2,beq_false_of_ne c3]
 exact ZO
theorem Zxo {γ:Type} (f:γ→D) (l:List γ):Nat.blt 0 (List.map f l).length=Nat.blt 0 (List.length l):=by rw[List.length_map]
def mpD {K W:Type} (f:K→D) (g:W→D) (l:List (K×W)):List (D×D):=l.map fun q=>(f q.1,g q.2)
def Z6 {K W:Type} (eq:K→K→Bool):List (K×W)→K→W→W
 | [],_,z=>z
 | (a,v) :: r,k,z=>bif eq k a then v else Z6 eq r k z
def Zw {K W:Type} (eq:K→K→Bool):List (K×W)→K→W→List (K×W)
 | [],k,v=>[(k,v)]
 | (a,u) :: r,k,v=>bif eq k a then (a,v) :: r else (a,u) :: Zw eq r k v
theorem Zbt {K W:Type}{f:K→D}{g:W→D} (eq:K→K→Bool) (he:∀a b,eqD (f a) (f b)=some (eq a b)) (l:List (K×W)) (k:K) (z:W):ZBn (mpD f g l) (f k) (g z)=some (g (Z6 eq l k z)):=by
 induction l with
 | nil=>rfl
 | cons q r ih=>
  obtain⟨a,v⟩:=q
  show(match (match eqD (f k) (f a) with | some true=>some (some (g v)) | some false=>ZkP (mpD f g r) (f k) | none=>none) with | some (some y)=>some y | some none=>some (g z) | none=>none)=_
  rw[he]
  unfold Z6
  cases eq k a with
  | true=>rfl
  | false=>exact ih
theorem ZdI {K W:Type}{f:K→D}{g:W→D} (eq:K→K→Bool) (he:∀a b,eqD (f a) (f b)=some (eq a b)) (l:List (K×W)) (k:K) (v:W):Zka (mpD f g l) (f k) (g v)=some (mpD f g (Zw eq l k v)):=by
 induction l with
 | nil=>rfl
 | cons q r ih=>
  obtain⟨a,u⟩:=q
  show(match eqD (f k) (f a) with | some true=>some ((f a,g v) :: mpD f g r) | some false=>(match Zka (mpD f g r) (f k) (g v) with | some l=>some ((f a,g u) :: l) | none=>none) | none=>none)=_
  rw[he]
  unfold Zw
  cases eq k a with
  | true=>rfl
  | false=>dsimp only;rw[ih];rfl
def Zvg (zs:List (Int×Int)) (p:Int):Option Int:=bif Nat.ble zs.length lim then some (Zfx zs p zs.length) else none
theorem ZvF {γ:Type}{f:γ→D}{g:γ→Int×Int} (hf:∀x,f x = .agg [.int .i64 (g x).1,.int .i64 (g x).2]):∀l:List γ,ZuJ (List.map f l)=some (List.map g l)
 | []=>rfl
 | x :: l=>by
  rw[List.map_cons,hf x,List.map_cons]
  unfold ZuJ
  rw[ZvF hf l]
theorem ZBq {γ:Type}{f:γ→D}{g:γ→Int×Int}{l:List γ}{x y:D}{t:Bool}{p:Int}{A:Int→Option α}{K:D→Option β} (hf:∀x,f x = .agg [.int .i64 (g x).1,.int .i64 (g x).2])
  (k:∀r,Zvg (List.map g l) p=some r→ZH (A r) Q (K (Zb r))):ZH ((Zvg (List.map g l) p).bind A) Q (bnd (ZlT 0 [.agg [x,y,.list t (List.map f l)],.int .i64 p]) K):=by
 refine Ze Zb (fun r h=>?_) k
 show(match ZuJ (List.map f l) with | some zs=>bif Nat.ble zs.length lim then some (D.int .i64 (Zfx zs p zs.length)) else none | none=>none)=_
 rw[ZvF hf l]
 unfold Zvg at h
 dsimp only
 cases hb:Nat.ble (List.map g l).length lim with
 | false=>rw[hb] at h;cases h
 | true=>rw[hb] at h;cases h;rfl
noncomputable def evD (Γ:Ctx) (f:Nat) (args:List V):Option D:=bnd (evW Γ f args []) fun r=>(match fr r.2 6 r.1 with | some (x,_)=>some x | none=>none)
theorem ZyW (Γ:Ctx) (f:Nat) (args:List V) (K:V→Option β):bnd (evW Γ f args []) (ZsU K)=bnd (evD Γ f args) (fun x=>ZBU x K):=by
 unfold evD ZsU
 simp only[ZfP]
 cases evW Γ f args [] with
 | none=>rfl
 | some r=>
  dsimp only
  cases fr r.2 6 r.1 with
  | none=>rfl
  | some q=>rfl
theorem Zm {γ:Type}{Γ:Ctx}{f:Nat}{args args':List V}{E:Option γ}{A:γ→Option α}{K:V→Option β} (enc:γ→D) (w:∀r,E=some r→evD Γ f args'=some (enc r)) (ha:args=args') (k:∀r,E=some r→ZH (A r) Q (ZBU (enc r) K)):ZH (E.bind A) Q (bnd (evW Γ f args []) (ZsU K)):=by
 subst ha
 rw[ZyW]
 exact Ze enc w k
end
theorem Zyn {β δ:Type} (Γ:Ctx) (k0:Nat) (c:C) (e:Env) (H:Zp) (k:Ex→Env→Zp→Option β) (p:β→Option δ):bnd (Zj4 Γ k0 c e H k) p=Zj4 Γ k0 c e H fun x e H=>bnd (k x e H) p:=by
 rw[Zo1,Zo1]
 cases Zav Γ (evW Γ) itW k0 c e H with
 | none=>exact ZfP _ _
 | some q=>rfl
theorem Z8 (Γ:Ctx) (f:Nat) (fn:FnI) (args:List V) (hc:Γ.code f=some fn) (hn:Nat.beq args.length fn.nargs=true) :
  evD Γ f args=Zj4 Γ 0 fn.body (Zfr 0 args) [] fun x e H1=>(match x with
   | .exit _=>none
   | _=>(match Znz e H1 fn.res with
    | some l=>Zhd 0 [Zin l] H1 fun _ vs H2=>(match vs with | [v]=>(match fr H2 6 v with | some (x,_)=>some x | none=>none) | _=>none)
    | none=>none)):=by
 unfold evD
 rw[Zgp Γ f fn args [] hc hn,Zyn]
 refine congrArg (Zj4 Γ 0 fn.body (Zfr 0 args) []) ?_
 funext x e H1
 have none_b:∀{γ δ:Type} (p:γ→Option δ),bnd none p=none:=fun p=>ZfP _ _
 cases x with
 | exit j=>exact none_b _
 | normal=>
  dsimp only
  cases Znz e H1 fn.res with
  | none=>exact none_b _
  | some l=>
   dsimp only
   rw[ZdU,ZdU]
   show bnd (match extract 0 [Zin l] H1 with | some (L,vs,H)=>_ | none=>none) _=_
   cases extract 0 [Zin l] H1 with
   | none=>exact none_b _
   | some q=>
    obtain⟨L,vs,H2⟩:=q
    match vs with
    | []=>exact none_b _
    | [v]=>exact ZmY _ _
    | _ :: _ :: _=>exact none_b _
 | ret=>
  dsimp only
  cases Znz e H1 fn.res with
  | none=>exact none_b _
  | some l=>
   dsimp only
   rw[ZdU,ZdU]
   show bnd (match extract 0 [Zin l] H1 with | some (L,vs,H)=>_ | none=>none) _=_
   cases extract 0 [Zin l] H1 with
   | none=>exact none_b _
   | some q=>
    obtain⟨L,vs,H2⟩:=q
    match vs with
    | []=>exact none_b _
    | [v]=>exact ZmY _ _
    | _ :: _ :: _=>exact none_b _
theorem ZEV {Γ:Ctx}{f:Nat}{args:List V}{x:D} (n:Nat) (h:(match evN Γ n f args [] with | some (v,H)=>(match fr H 6 v with | some (x,_)=>some x | none=>none) | none=>none)=some x):evD Γ f args=some x:=by
 cases hn:evN Γ n f args [] with
 | none=>rw[hn] at h;cases h
 | some r=>
  rw[hn] at h
  obtain⟨v,H⟩:=r
  unfold evD
  rw[ZDU n hn,ZmY]
  exact h
theorem Z2 {S R β:Type}{step:S→Option (S⊕R)}{G:S→Option β} (x:R→β)
  (h:∀(s:S) (rec:S→Option R),(∀s r,rec s=some r→G s=some (x r))→ZH (step s) (fun t rhs=>(match t with | .inl s'=>∀r,rec s'=some r→rhs=some (x r) | .inr r=>rhs=some (x r))) (G s)):∀s r,lp step s=some r→G s=some (x r):=by
 intro s r hr
 obtain⟨n,hn⟩:=ZBd hr
 clear hr
 induction n generalizing s r with
 | zero=>cases hn
 | succ n ih=>
  unfold lpN at hn
  cases hs:step s with
  | none=>rw[hs] at hn;cases hn
  | some t=>
   rw[hs] at hn
   have:=h s (lpN step n) ih t hs
   cases t with
   | inl s'=>exact this r hn
   | inr r'=>cases hn;exact this
theorem Zf {S R β:Type}{G:Option β}{rec:S→Option R}{x:R→β}{s':S} (h:∀r,rec s'=some r→G=some (x r)):ZH (some (Sum.inl s')) (fun(t:S⊕R) (rhs:Option β)=>(match t with | .inl s'=>∀r,rec s'=some r→rhs=some (x r) | .inr r=>rhs=some (x r))) (bnd G some):=by
 intro a ha
 cases ha
 intro r hr
 rw[Zvl]
 exact h r hr
theorem ZB2 {Γ:Ctx}{f:Nat}{args:List V} (h:evD Γ f args=some (.bool true)):∃H',evW Γ f args []=some (.d (.bool true),H'):=by
 unfold evD at h
 rw[ZfP] at h
 cases he:evW Γ f args [] with
 | none=>rw[he] at h;cases h
 | some r=>
  obtain⟨v,H⟩:=r
  rw[he] at h
  refine⟨H,?_⟩
  dsimp only at h
  cases hf:fr H 6 v with
  | none=>rw[hf] at h;cases h
  | some q=>
   obtain⟨x,ks⟩:=q
   rw[hf] at h
   cases h
   unfold fr at hf
   split at hf
   ·rename_i x
    split at hf
    ·rename_i ts
     cases he:Zw7 ts<;>rw[he] at hf<;>cases hf
    ·rename_i y hy
     cases he:x.esc<;>rw[he] at hf<;>cases hf
     rfl
   all_goals
    first
    | cases hf
    | (split at hf<;>first | cases hf | (rename_i sz' xs _;revert hf;cases Nat.beq _ sz'<;>intro hf<;>cases hf) | skip)
   all_goals
    rename_i l ks _
    first
    | (cases he:D.escs l<;>rw[he] at hf<;>cases hf)
    | cases hf
theorem Zwk {α β:Type}{A B:Option α}{Q:α→Option β→Prop}{X:Option β} (h:ZH A Q X):ZH (bif true then A else B) Q X:=h
theorem Zw5 {α β:Type}{A B:Option α}{Q:α→Option β→Prop}{X:Option β} (h:ZH B Q X):ZH (bif false then A else B) Q X:=h
abbrev w64 (n:Int):Int:=IntKind.i64.wrap n
section
variable {γ:Type}
theorem Zu (f:γ→D) (l:List γ):(((List.map f l).length:Nat):Int)=((l.length:Nat):Int):=by rw[List.length_map]
theorem Znc (f:γ→D) (z:γ) (n:Int):List.replicate n.toNat (f z)=List.map f (List.replicate n.toNat z):=by rw[List.map_replicate]
theorem ZtC {α:Type}:∀(l:List α) (i:Nat) (y:α),Zf9 l i y=l.set i y
 | [],_,_=>rfl
 | _ :: _,0,_=>rfl
 | x :: l,i+1,y=>congrArg (x :: ·) (ZtC l i y)
theorem ZaB (f:γ→D) (l:List γ) (i:Nat) (y:γ):Zf9 (List.map f l) i (f y)=List.map f (List.set l i y):=by rw[ZtC,List.map_set]
theorem Zca (f:γ→D) (l m:List γ):List.map f l++List.map f m=List.map f (l++m):=by rw[List.map_append]
theorem Zcd (f:γ→D) (l:List γ) (n:Nat):Nat.ble ((List.map f l).length+n) lim=Nat.ble (l.length+n) lim:=by rw[List.length_map]
theorem ZgI (f:γ→D) (l:List γ):Nat.ble (List.map f l).length lim=Nat.ble l.length lim:=by rw[List.length_map]
theorem ZE2 (f:γ→D) (l:List γ) (o n:Nat):List.take n (List.drop o (List.map f l))=List.map f (List.take n (List.drop o l)):=by rw[← List.map_drop,← List.map_take]
theorem ZuG (f:γ→D) (l:List γ) (hi:Nat):List.take (hi-0) (List.drop 0 (List.map f l))=List.map f (List.take hi l):=by rw[ZE2];rfl
theorem ZAl (f:γ→D) (l:List γ) (hi:Nat):(Nat.ble 0 hi&&Nat.ble hi (List.map f l).length)=Nat.ble hi l.length:=by rw[List.length_map];cases hi<;>rfl
end
end Go.Proofs.YtnmbdjkbaihicaaGreatDoorE
