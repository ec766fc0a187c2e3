/- TeamBound: part 3 of 5 of the proof. -/
import Derived.Test.YtgcfmiajkbbmeaaGreatZTeamBoundb
import Derived.Test.YtgcfmiajkbbmeaaGreatProg
import Derived.WalkKit
import Derived.Shelf.Sort.Plain
import Derived.Shelf.Slices.In.SortNone
import Derived.KernelRfl
import Derived.ChangeArms
import Derived.Deep.Slices
import Derived.ChangeOld
import Derived.WideShapes
import Derived.FnData
import Derived.MakeChecks
import Derived.LaidMore
import Derived.OpenShut
set_option maxRecDepth 100000
set_option maxHeartbeats 40000000
set_option linter.unusedVariables false
set_option linter.unusedSimpArgs false
namespace Go.Proofs.YtgcfmiajkbbmeaaGreatE
open Go
open Go.IntKind (u64 i64 u32 i32 u8)
theorem Zqj:∀(n:Nat) (H:Zd) (b i:Nat) (blk:Blk),(ZwD H b n)[i]? = some blk→blk ≠ .dead→H[i]? = some blk∧¬(b≤i∧i<b+n)
  | 0,H,b,i,blk,h,_=>⟨h,by omega⟩
  | n+1,H,b,i,blk,h,hd=>by
    obtain⟨h1,h2⟩:=Zqj n _ _ i blk h hd
    rw[Z8,List.getElem?_set] at h1
    by_cases hbi:b=i
    · rw[if_pos hbi] at h1
      split at h1
      · cases h1;exact absurd rfl hd
      · cases h1
    · rw[if_neg hbi] at h1
      exact⟨h1,by omega⟩
theorem Zmr (pos:List (Nat×Nat)):∀(mask:List Nat) (H:Zd) (i:Nat) (blk:Blk),(ZeI H pos mask)[i]? = some blk→blk ≠ .dead→H[i]? = some blk∧∀m∈mask,∀b n,pos[m]? = some (b,n)→¬(b≤i∧i<b+n)
  | [],H,i,blk,h,_=>⟨h,by simp⟩
  | m :: mask,H,i,blk,h,hd=>by
    simp only[ZeI] at h
    rw[ZA] at h
    cases hp:pos[m]? with
    | none=>
      rw[hp] at h
      obtain⟨h1,h2⟩:=Zmr pos mask H i blk h hd
      refine⟨h1,fun k hk b n hb=>?_⟩
      rcases List.mem_cons.1 hk with rfl | hk
      · rw[hp] at hb;cases hb
      · exact h2 k hk b n hb
    | some q=>
      obtain⟨b0,n0⟩:=q
      rw[hp] at h
      obtain⟨h1,h2⟩:=Zmr pos mask _ i blk h hd
      obtain⟨h3,h4⟩:=Zqj n0 H b0 i blk h1 hd
      refine⟨h3,fun k hk b n hb=>?_⟩
      rcases List.mem_cons.1 hk with rfl | hk
      · rw[hp] at hb;cases hb;exact h4
      · exact h2 k hk b n hb
theorem Blk.like_symm {a b:Blk} (h:a.like b):b.like a:=by
  cases a<;>cases b<;>simp_all [Blk.like]
theorem Zrm {Γ:Ctx}{cf:Z4}{e:Env}{nid:Nat}{H:Zd}{op:O}{v:V}{up:List (Nat×Blk)}{nw:List Blk} (hc:Zvp op=true∨Zuz op=true) (h:opE Γ cf e nid H op=some (v,up,nw)):nw=[]:=by
  have key:∀(x:Option V),(match x with | some v=>ZaH v | none=>none)=some (v,up,nw)→nw=[]:=fun x h=>by
    cases x with
    | none=>cases h
    | some y=>exact(ZJ h).2.2
  have keyD:∀(x:Option D),(match x with | some r=>ZaH (.d r) | none=>none)=some (v,up,nw)→nw=[]:=fun x h=>by
    cases x with
    | none=>cases h
    | some y=>exact(ZJ h).2.2
  cases op<;>first | (rcases hc with hc | hc<;>cases hc;done) | skip
  case nilckm tab x=>
    simp only[opE] at h
    unfold Znq at h
    split at h
    · split at h
      · rename_i f _ _ _ _ _ _
        cases hb:Nat.beq f 2000000 with
        | true=>rw[hb] at h;exact(ZJ h).2.2
        | false=>rw[hb] at h;cases h
      · cases h
    · cases h
  case mov x=>exact(ZJ h).2.2
  case mkfn f caps=>exact(ZJ h).2.2
  case bslice sz z len ps=>
    cases len with
    | zero=>simp only[opE] at h;split at h<;>first | exact(ZJ h).2.2 | (cases h;done) | skip
    | succ n=>rcases hc with hc | hc<;>cases hc
  case build z ps=>simp only[opE] at h;split at h<;>first | exact(ZJ h).2.2 | cases h
  case pick c a b=>simp only[opE] at h;split at h<;>first | exact(ZJ h).2.2 | cases h
  case conv k x=>simp only[opE] at h;split at h<;>first | exact(ZJ h).2.2 | cases h
  case eqv ks neg x y=>
    simp only[opE] at h
    split at h
    · split at h
      · split at h
        · exact(ZJ h).2.2
        · cases h
      · cases h
    · cases h
  case field off n ag x=>
    simp only[opE] at h
    split at h
    · exact key _ h
    · exact key _ h
    · cases h
  case extract x i=>
    simp only[opE] at h
    split at h
    · exact key _ h
    · split at h<;>first | exact(ZJ h).2.2 | cases h
    · cases h
  all_goals (simp only[opE] at h;first | exact key _ h | exact keyD _ h)
theorem Zvn {Γ:Ctx}{cf:Z4}{e:Env}{nid:Nat}{H:Zd}{op:O}{v:V}{up:List (Nat×Blk)}{nw:List Blk} (hs:(∃n x y,op = .store n x y∨∃k,op = .storek n x y k)∨∃sz x y,op = .append sz x y) (h:opE Γ cf e nid H op=some (v,up,nw)) (hu:ZnJ 3 up nw=true) :
    nw=[]∧(up=[]∨∃b blk old,up=[(b,blk)]∧H[b]? = some old∧old.like blk):=by
  simp only[ZnJ,Bool.and_eq_true,List.isEmpty_iff] at hu
  obtain⟨hu,rfl⟩:=hu
  refine⟨rfl,?_⟩
  rcases hs with⟨n,x,y,hs⟩ | ⟨sz,x,y,rfl⟩
  · have h:Zik H n (x.val e) (y.val e)=some (v,up,[]):=by rcases hs with rfl | ⟨k,rfl⟩<;>exact h
    unfold Zik at h
    split at h
    · rename_i b o _
      split at h
      · rename_i cs hb
        cases hc:(Nat.beq (y.val e).cells.length n&&Nat.ble (o+n) cs.length&&(y.val e).okb&&Zqo (y.val e).cells) with
        | false=>rw[hc] at h;cases h
        | true=>
          rw[hc] at h
          simp only[cond_true,Option.some.injEq,Prod.mk.injEq] at h
          obtain⟨rfl,rfl,_⟩:=h
          exact .inr ⟨_,_,.cells cs,rfl,by rw[← ZA];exact hb,trivial⟩
      · cases h
    · rename_i b sz i k _
      split at h
      · rename_i sz' xs hb
        cases hq:Nat.beq sz sz' with
        | false=>rw[hq] at h;cases h
        | true=>
          obtain rfl:=Nat.eq_of_beq_eq_true hq
          rw[hq] at h
          simp only[cond_true] at h
          split at h
          · rename_i x0 y0 ks h1 h2
            cases he:ZfQ ks b with
            | true=>rw[he] at h;cases h
            | false=>
              rw[he] at h
              simp only[cond_false] at h
              cases hc:(Nat.beq y0.cells.length n&&Nat.ble (k+n) x0.cells.length&&(V.d y0).okb&&(x0.isAgg || !y0.isAgg)) with
              | false=>rw[hc] at h;cases h
              | true=>
                rw[hc] at h
                simp only[cond_true,Option.some.injEq,Prod.mk.injEq] at h
                obtain⟨rfl,rfl,_⟩:=h
                cases ks with
                | nil=>exact .inr ⟨_,_,.arr sz xs,rfl,by rw[← ZA];exact hb,rfl,by rw[Z8];simp⟩
                | cons a r=>simp[Zsx] at hu
          · cases h
      · cases h
    · cases h
  · simp only[opE] at h
    unfold Zfd at h
    split at h
    · cases h
    · rename_i ys hy
      cases hz:Zha sz ys 0 with
      | false=>rw[hz] at h;cases h
      | true=>
        rw[hz] at h
        simp only[cond_true] at h
        split at h
        · cases hl:Nat.ble ys.length lim with
          | false=>rw[hl] at h;cases h
          | true=>rw[hl] at h;cases h
        · rename_i b sz' _
          split at h
          · rename_i sz'' xs hb
            cases hc:(Nat.beq sz sz'&&Nat.beq sz sz'') with
            | false=>rw[hc] at h;cases h
            | true=>
              rw[hc] at h
              simp only[cond_true] at h
              cases hl:Nat.ble (xs.length+ys.length) lim with
              | false=>rw[hl] at h;cases h
              | true=>rw[hl] at h;cases h
          · cases h
        · rename_i b sz' o len _
          split at h
          · rename_i sz'' xs hb
            cases hc:(Nat.beq sz sz'&&Nat.beq sz sz''&&Nat.ble (o+len+ys.length) xs.length) with
            | false=>rw[hc] at h;cases h
            | true=>
              rw[hc] at h
              simp only[cond_true,Option.some.injEq,Prod.mk.injEq] at h
              obtain⟨rfl,rfl,_⟩:=h
              simp only[Bool.and_eq_true,Nat.ble_eq] at hc
              obtain⟨⟨c1,c2⟩,c3⟩:=hc
              refine .inr ⟨_,_,.arr sz'' xs,rfl,by rw[← ZA];exact hb,(Nat.eq_of_beq_eq_true c2).symm,?_⟩
              simp only[List.length_append,List.length_take,List.length_drop]
              omega
          · cases h
        · cases h
theorem ZlG {e:Env}{H:Zd}{o:Op1}{up:List (Nat×Blk)}{nw:List Blk} (h:ZnE e H o up nw=true):ZnJ o.eff up nw=true∧ZB0 e H up o.op=true:=by
  unfold ZnE at h
  rwa [Bool.and_eq_true] at h
def ZaM.len (t:ZaM) (j:Nat):Nat:=(t.HH j).length
theorem Zl3 {p:Op1}:(ZV p≤2↔(p.eff=0∨p.eff=1))∧(ZV p=3↔p.eff=3):=by
  unfold ZV
  split
  · rename_i h
    rw[h]
    cases Zvp p.op<;>cases Zuz p.op<;>simp
  · rename_i h;rw[h];simp
  · rename_i h;rw[h];simp
  · rename_i h0 h1 h3
    constructor
    · simp;exact⟨h0,h1⟩
    · simp;exact h3
theorem ZrN {p:Op1} (h:p.eff=1):ZV p=1:=by unfold ZV;simp only[h]
theorem ZpY {p:Op1} (h:ZV p≤1):(ZV p=0∧Zvp p.op=true)∨(ZV p=1∧Zuz p.op=true∧p.eff≠1)∨(ZV p=1∧p.eff=1):=by
  rcases(Zl3 (p:=p)).1.1 (by omega) with h0 | h0
  · unfold ZV at h ⊢
    rw[h0] at h ⊢
    cases h1:Zvp p.op<;>cases h2:Zuz p.op<;>simp_all
  · exact .inr (.inr ⟨ZrN h0,h0⟩)
def Zx9:V→Option Nat
  | .ptr b _=>some b
  | .eptr b _ _ _=>some b
  | _=>none
theorem Zjs {H H':Zd}{n:Nat}{ag:Bool}{x v:V} (h:ZbO H n ag x=some v) (hs:∀b,Zx9 x=some b→∀blk,H[b]? = some blk→blk ≠ .dead→H'[b]? = some blk):ZbO H' n ag x=some v:=by
  cases x<;>try exact h
  · rename_i d
    cases d<;>exact h
  · rename_i b o
    unfold ZbO at h ⊢
    simp only[ZA] at h ⊢
    cases hb:H[b]? with
    | none=>rw[hb] at h;cases h
    | some blk=>
      rw[hb] at h
      cases blk<;>try (cases h;done)
      rw[hs b rfl _ hb (by simp)];exact h
  · rename_i b sz i k
    unfold ZbO at h ⊢
    simp only[ZA] at h ⊢
    cases hb:H[b]? with
    | none=>rw[hb] at h;cases h
    | some blk=>
      rw[hb] at h
      cases blk<;>try (cases h;done)
      rw[hs b rfl _ hb (by simp)];exact h
theorem ZuJ {H:Zd}{n:Nat}{ag:Bool}{x v:V}{b:Nat} (h:ZbO H n ag x=some v) (hx:Zx9 x=some b):∃blk,H[b]? = some blk∧blk ≠ .dead:=by
  cases x<;>try (cases hx;done)
  · rename_i b' o
    cases hx
    unfold ZbO at h
    simp only[ZA] at h
    cases hb:H[b]? with
    | none=>rw[hb] at h;cases h
    | some blk=>
      rw[hb] at h
      cases blk<;>try (cases h;done)
      exact⟨_,rfl,by simp⟩
  · rename_i b' sz i k
    cases hx
    unfold ZbO at h
    simp only[ZA] at h
    cases hb:H[b]? with
    | none=>rw[hb] at h;cases h
    | some blk=>
      rw[hb] at h
      cases blk<;>try (cases h;done)
      exact⟨_,rfl,by simp⟩
theorem Zrs:∀{up:List (Nat×Blk)}{H:Zd}{b:Nat},ZmI up b=false→(Za1 H up)[b]? = H[b]?
  | [],_,_,_=>rfl
  | (a,blk) :: r,H,b,h=>by
    simp only[ZmI] at h
    cases hb:Nat.beq a b with
    | true=>rw[hb] at h;cases h
    | false=>
      rw[hb] at h
      show(Za1 (Zck H a blk) r)[b]? = _
      rw[Zrs (up:=r) h,Z8,List.getElem?_set_ne (fun e=>by subst e;rw[Nat.beq_refl] at hb;cases hb)]
theorem ZnR {e:Env}{up:List (Nat×Blk)}{s:Nat}:∀{l:List Opd},Zmc e up l=true→Zsi l s=true→∀b,Zx9 (e s)=some b→ZmI up b=false
  | [],_,hs=>by cases hs
  | .c v :: l,h,hs=>by
    simp only[Zmc,Bool.and_eq_true] at h
    exact ZnR (l:=l) h.2 hs
  | .t i :: l,h,hs=>by
    simp only[Zmc,Bool.and_eq_true] at h
    simp only[Zsi,Bool.or_eq_true] at hs
    rcases hs with hs | hs
    · obtain rfl:=Nat.eq_of_beq_eq_true hs
      have h1:=h.1
      intro b hb
      change (match e i with
        | .ptr b _=>!(ZmI up b)
        | .eptr b _ _ _=>!(ZmI up b)
        | .d _=>true
        | _=>false)=true at h1
      cases hx:e i<;>rw[hx] at h1 hb<;>simp only[Zx9,Option.some.injEq] at hb<;>first | (subst hb;simpa using h1) | cases hb
    · exact ZnR (l:=l) h.2 hs
theorem ZsB {e:Env}{H H':Zd}{s:Nat}:∀{l:List Opd},ZuX e H H' l=true→Zsi l s=true→∃i,ZbO H 1 false (e s)=some (.mp i)∧ZbO H' 1 false (e s)=some (.mp i)
  | [],_,hs=>by cases hs
  | .c v :: l,h,hs=>by
    simp only[ZuX,Bool.and_eq_true] at h
    exact ZsB (l:=l) h.2 hs
  | .t i :: l,h,hs=>by
    simp only[ZuX,Bool.and_eq_true] at h
    simp only[Zsi,Bool.or_eq_true] at hs
    rcases hs with hs | hs
    · obtain rfl:=Nat.eq_of_beq_eq_true hs
      have h1:=h.1
      change (match e i with
        | .ptr b o=>(match ZbO H 1 false (.ptr b o),ZbO H' 1 false (.ptr b o) with | some (.mp i),some (.mp j)=>Nat.beq i j | _,_=>false)
        | _=>false)=true at h1
      split at h1
      · rename_i b o hx
        rw[hx]
        split at h1
        · rename_i i1 j1 e1 e2
          rw[e1,e2,Nat.eq_of_beq_eq_true h1]
          exact⟨_,rfl,rfl⟩
        · cases h1
      · cases h1
    · exact ZsB (l:=l) h.2 hs
section
variable {P:Program} {G:Zk} {N:Nat} {Γ:Ctx} {cf:Z4} {t:ZaM} {l:List Op1} {e:Env} {H:Zd} {e':Env} {H':Zd} {os:Array Oper} {B:Nat→Nat→Prop} {D:Nat→Bool}
theorem ZaM.OK.len_succ (ht:t.OK Γ cf [] l e H e' H') {j:Nat} (hj:j<l.length):t.len (j+1)=t.len j+(t.NW j).length:=by
  unfold ZaM.len
  rw[ht.h j _ (List.getElem?_eq_getElem hj),List.length_append,Zi5]
theorem ZaM.OK.len_mono (ht:t.OK Γ cf [] l e H e' H') {a:Nat}:∀(b:Nat),a≤b→b≤l.length→t.len a≤t.len b:=by
  intro b
  induction b with
  | zero => intro h _; have : a = 0 := by omega
            subst this;exact Nat.le_refl _
  | succ b ih=>
    intro h hb
    by_cases hab:a=b+1
    · subst hab;exact Nat.le_refl _
    · have h1:=ih (by omega) (by omega)
      have h2:=ht.len_succ (j:=b) (by omega)
      omega
theorem ZaM.OK.whose (ht:t.OK Γ cf [] l e H e' H') {a i:Nat}:∀(b:Nat),a≤b→b≤l.length→t.len a≤i→i<t.len b→∃j,a≤j∧j<b∧t.len j≤i∧i<t.len (j+1):=by
  intro b
  induction b with
  | zero => intro h _ h1 h2; have : a = 0 := by omega
            subst this;omega
  | succ b ih=>
    intro h hb h1 h2
    by_cases hab:a=b+1
    · subst hab;omega
    · by_cases hi:i<t.len b
      · obtain⟨j,g1,g2,g3⟩:=ih (by omega) (by omega) h1 hi
        exact⟨j,g1,by omega,g3⟩
      · exact⟨b,by omega,by omega,by omega,h2⟩
theorem ZaM.OK.one (ht:t.OK Γ cf [] l e H e' H') {i j k:Nat} (hj:j<l.length) (hk:k<l.length) (h1:t.len j≤i∧i<t.len (j+1)) (h2:t.len k≤i∧i<t.len (k+1)):j=k:=by
  rcases Nat.lt_trichotomy j k with h | h | h
  · have:=ht.len_mono (a:=j+1) k (by omega) (by omega);omega
  · exact h
  · have:=ht.len_mono (a:=k+1) j (by omega) (by omega);omega
theorem ZaM.OK.noUp (ht:t.OK Γ cf [] l e H e' H') {j:Nat}{p:Op1} (hp:l[j]? = some p) (hc:ZV p≤2):t.UP j=[]:=by
  cases hw:t.W j with
  | false=>exact(ht.n j p hp hw).2.1
  | true=>
    have:=(ZlG (ht.y j p hp hw).2).1
    rcases(Zl3 (p:=p)).1.1 hc with h | h
    · rw[h] at this;simpa [ZnJ] using this
    · rw[h] at this
      simp only[ZnJ,Bool.and_eq_true,List.isEmpty_iff] at this
      exact this.1
theorem ZaM.OK.noNew (ht:t.OK Γ cf [] l e H e' H') {j:Nat}{p:Op1} (hp:l[j]? = some p) (hc:ZV p≤1):t.NW j=[]:=by
  cases hw:t.W j with
  | false=>exact(ht.n j p hp hw).2.2
  | true=>
    rcases ZpY hc with h | h | h
    · exact Zrm (.inl h.2) (ht.y j p hp hw).1
    · exact Zrm (.inr h.2.1) (ht.y j p hp hw).1
    · have:=(ZlG (ht.y j p hp hw).2).1
      rw[h.2] at this
      simp only[ZnJ,Bool.and_eq_true,List.isEmpty_iff] at this
      exact this.2
theorem ZaM.OK.new2 (ht:t.OK Γ cf [] l e H e' H') {i j:Nat}{p:Op1} (hp:l[j]? = some p) (h:t.len j≤i∧i<t.len (j+1)):2≤ZV p:=by
  have hj:=(List.getElem?_eq_some_iff.1 hp).1
  rcases Nat.lt_or_ge (ZV p) 2 with h' | h'
  · have:=ht.len_succ hj
    rw[ht.noNew hp (by omega)] at this
    simp at this
    omega
  · exact h'
theorem ZaM.OK.stay1 (ht:t.OK Γ cf [] l e H e' H') {j:Nat}{p:Op1} (hp:l[j]? = some p) (hc:ZV p≤2):t.HH (j+1)=t.HH j++t.NW j:=by
  rw[ht.h j p hp,ht.noUp hp hc];rfl
theorem ZaM.OK.stay (ht:t.OK Γ cf [] l e H e' H') {a:Nat}:∀(b:Nat),a≤b→b≤l.length→(∀m p,a≤m→m<b→l[m]? = some p→ZV p≤2)→∀i,i<t.len a→(t.HH b)[i]? = (t.HH a)[i]?:=by
  intro b
  induction b with
  | zero => intro h _ _ i _; have : a = 0 := by omega
            subst this;rfl
  | succ b ih=>
    intro h hb hc i hi
    by_cases hab:a=b+1
    · subst hab;rfl
    · have hp:l[b]? = some (l[b]'(by omega)):=List.getElem?_eq_getElem (by omega)
      have hm:=ht.len_mono (a:=a) b (by omega) (by omega)
      rw[ht.stay1 hp (hc b _ (by omega) (by omega) hp),List.getElem?_append_left (by unfold ZaM.len at *;omega)]
      exact ih (by omega) (by omega) (fun m p h1 h2=>hc m p h1 (by omega)) i hi
theorem ZaM.OK.like1 (ht:t.OK Γ cf [] l e H e' H') (hk:Chk P G N os l B) {j:Nat}{p:Op1} (hp:l[j]? = some p) (hc:ZV p≤3) {i:Nat} (hi:i<t.len j):∃x y,(t.HH j)[i]? = some x∧(t.HH (j+1))[i]? = some y∧(x=y∨x.like y):=by
  have same:t.UP j=[]→∃x y,(t.HH j)[i]? = some x∧(t.HH (j+1))[i]? = some y∧(x=y∨x.like y):=fun hu=>by
    refine⟨_,_,List.getElem?_eq_getElem hi,?_,.inl rfl⟩
    rw[ht.h j p hp,hu]
    show(t.HH j++t.NW j)[i]? = _
    rw[List.getElem?_append_left hi]
    exact List.getElem?_eq_getElem hi
  rcases Nat.lt_or_ge (ZV p) 3 with h | h
  · exact same (ht.noUp hp (by omega))
  · have he:=(Zl3 (p:=p)).2.1 (by omega)
    cases hw:t.W j with
    | false=>exact same (ht.n j p hp hw).2.1
    | true=>
      obtain⟨y1,y2⟩:=ht.y j p hp hw
      rw[hk.mask j p hp h] at y1
      have y2:=(ZlG y2).1
      rw[he] at y2
      have hs:(∃n x y,p.op = .store n x y∨∃k,p.op = .storek n x y k)∨∃sz x y,p.op = .append sz x y:=by
        have:=hk.eff3 j p hp
        unfold ZsV at this
        rw[he] at this
        cases hop:p.op<;>rw[hop] at this<;>first | (cases this;done) | exact .inl ⟨_,_,_,.inl rfl⟩ | exact .inl ⟨_,_,_,.inr ⟨_,rfl⟩⟩ | exact .inr ⟨_,_,_,rfl⟩
      obtain⟨f1,f2⟩:=Zvn hs y1 y2
      rcases f2 with f2 | ⟨b,blk,old,f2,f3,f4⟩
      · exact same f2
      · by_cases hbi:b=i
        · subst hbi
          refine⟨old,blk,f3,?_,.inr f4⟩
          rw[ht.h j p hp,f1,f2]
          simp only[Za1,List.append_nil,Z8]
          rw[List.getElem?_set,if_pos rfl,if_pos (show b<(t.HH j).length from hi)]
        · refine⟨_,_,List.getElem?_eq_getElem hi,?_,.inl rfl⟩
          rw[ht.h j p hp,f1,f2]
          simp only[Za1,List.append_nil,Z8]
          rw[List.getElem?_set,if_neg hbi]
          exact List.getElem?_eq_getElem hi
theorem ZaM.OK.like (ht:t.OK Γ cf [] l e H e' H') (hk:Chk P G N os l B) {a:Nat}:∀(b:Nat),a≤b→b≤l.length→(∀m p,a≤m→m<b→l[m]? = some p→ZV p≤3)→∀i,i<t.len a→∃x y,(t.HH a)[i]? = some x∧(t.HH b)[i]? = some y∧(x=y∨x.like y):=by
  intro b
  induction b with
  | zero => intro h _ _ i hi; have : a = 0 := by omega
            subst this;exact⟨_,_,List.getElem?_eq_getElem hi,List.getElem?_eq_getElem hi,.inl rfl⟩
  | succ b ih=>
    intro h hb hc i hi
    by_cases hab:a=b+1
    · subst hab;exact⟨_,_,List.getElem?_eq_getElem hi,List.getElem?_eq_getElem hi,.inl rfl⟩
    · have hp:l[b]? = some (l[b]'(by omega)):=List.getElem?_eq_getElem (by omega)
      have hm:=ht.len_mono (a:=a) b (by omega) (by omega)
      obtain⟨x,y,h1,h2,h3⟩:=ih (by omega) (by omega) (fun m p h1 h2=>hc m p h1 (by omega)) i hi
      obtain⟨y',z,g1,g2,g3⟩:=ht.like1 hk hp (hc b _ (by omega) (by omega) hp) (i:=i) (by omega)
      rw[h2] at g1
      cases g1
      refine⟨x,z,h1,g2,?_⟩
      rcases h3 with rfl | h3
      · exact g3
      · rcases g3 with rfl | g3
        · exact .inr h3
        · exact .inr (Blk.like_trans h3 g3)
theorem ZaM.OK.env0 (ht:t.OK Γ cf [] l e H e' H') {x:Nat}:∀(j:Nat),j≤l.length→(∀i p,i<j→l[i]? = some p→p.dst≠some x)→t.E j x=e x:=by
  intro j
  induction j with
  | zero=>intro _ _;rw[ht.e0]
  | succ j ih=>
    intro hj hn
    have hp:l[j]? = some (l[j]'(by omega)):=List.getElem?_eq_getElem (by omega)
    rw[ht.e j _ hp]
    have h1:=hn j _ (by omega) hp
    have h2:=ih (by omega) (fun i p hi=>hn i p (by omega))
    cases hd:(l[j]'(by omega)).dst with
    | none=>exact h2
    | some d=>
      rw[hd] at h1
      show(bif Nat.beq d x then t.VV j else t.E j x)=e x
      have:Nat.beq d x=false:=by
        cases hb:Nat.beq d x with
        | false=>rfl
        | true=>exact absurd (congrArg some (Nat.eq_of_beq_eq_true hb)) h1
      rw[this];exact h2
theorem ZaM.OK.envd (ht:t.OK Γ cf [] l e H e' H') (hk:Chk P G N os l B) {i x:Nat}{p:Op1} (hp:l[i]? = some p) (hd:p.dst=some x):∀(j:Nat),i<j→j≤l.length→t.E j x=t.VV i:=by
  intro j
  induction j with
  | zero=>intro h;omega
  | succ j ih=>
    intro hij hj
    have hq:l[j]? = some (l[j]'(by omega)):=List.getElem?_eq_getElem (by omega)
    rw[ht.e j _ hq]
    by_cases h:i=j
    · subst h
      rw[hp] at hq
      cases hq
      rw[hd]
      show(bif Nat.beq x x then t.VV i else _)=_
      rw[Nat.beq_refl];rfl
    · have h2:=ih (by omega) (by omega)
      cases hd':(l[j]'(by omega)).dst with
      | none=>exact h2
      | some d=>
        show(bif Nat.beq d x then t.VV j else t.E j x)=_
        have:Nat.beq d x=false:=by
          cases hb:Nat.beq d x with
          | false=>rfl
          | true=>
            obtain rfl:=Nat.eq_of_beq_eq_true hb
            exact absurd (hk.dst i j p _ d hp hq hd hd') h
        rw[this];exact h2
theorem ZaM.OK.envs (ht:t.OK Γ cf [] l e H e' H') (hk:Chk P G N os l B) {j x:Nat}{q:Op1} (hq:l[j]? = some q) (he:q.eff=1) (hx:x∈Zbn q):∀(k:Nat),j≤k→k≤l.length→t.E k x=t.E j x:=by
  intro k
  induction k with
  | zero => intro h _; have : j = 0 := by omega
            subst this;rfl
  | succ k ih=>
    intro hjk hk'
    by_cases h:j=k+1
    · subst h;rfl
    · have hp:l[k]? = some (l[k]'(by omega)):=List.getElem?_eq_getElem (by omega)
      have h2:=ih (by omega) (by omega)
      rw[ht.e k _ hp]
      cases hd:(l[k]'(by omega)).dst with
      | none=>exact h2
      | some d=>
        show(bif Nat.beq d x then t.VV k else t.E k x)=_
        have:Nat.beq d x=false:=by
          cases hb:Nat.beq d x with
          | false=>rfl
          | true=>
            obtain rfl:=Nat.eq_of_beq_eq_true hb
            exact absurd hx (hk.stay k j _ q d hp hq he (by omega) hd)
        rw[this];exact h2
theorem Chk.lt (hk:Chk P G N os l B):∀(j i:Nat),j<l.length→B i j→i<j:=by
  intro j
  induction j using Nat.strongRecOn with
  | ind j ih=>
    intro i hj hb
    obtain⟨k,h1,h2⟩:=hk.bef j _ i (Array.getElem?_eq_getElem (by rw[hk.len];exact hj)) hb
    have h3:=hk.pre j _ (Array.getElem?_eq_getElem (by rw[hk.len];exact hj)) k h1
    rcases h2 with rfl | ⟨h4,h5⟩
    · exact h3
    · have:=ih k h4 i (by omega) h5;omega
def Zng (os:Array Oper) (D:Nat→Bool):Prop:=∀(j:Nat) o,os[j]? = some o→D j=true→∀i∈ZlV o,D i=true
theorem Chk.down (hk:Chk P G N os l B) (hD:Zng os D):∀(j i:Nat) o,os[j]? = some o→(∀k∈ZlV o,D k=true)→B i j→D i=true:=by
  intro j
  induction j using Nat.strongRecOn with
  | ind j ih=>
    intro i o ho hp hb
    obtain⟨k,h1,h2⟩:=hk.bef j o i ho hb
    rcases h2 with rfl | ⟨h4,h5⟩
    · exact hp _ h1
    · have hk':k<os.size:=by
        have:=(Array.getElem?_eq_some_iff.1 ho).1;omega
      exact ih k h4 i _ (Array.getElem?_eq_getElem hk') (fun m hm=>hD k _ (Array.getElem?_eq_getElem hk') (hp k h1) m hm) h5
theorem Chk.downD (hk:Chk P G N os l B) (hD:Zng os D) {i j:Nat} (hj:j<l.length) (h:D j=true) (hb:B i j):D i=true:=
  hk.down hD j i _ (Array.getElem?_eq_getElem (by rw[hk.len];exact hj)) (hD j _ (Array.getElem?_eq_getElem (by rw[hk.len];exact hj)) h) hb
theorem Chk.order (hk:Chk P G N os l B) {i j:Nat}{p q:Op1} (hp:l[i]? = some p) (hq:l[j]? = some q) (hc:3≤ZV p) (hc2:2≤ZV q):i=j∨(i<j∧B i j)∨(j<i∧B j i):=by
  have hi:=(List.getElem?_eq_some_iff.1 hp).1
  have hj:=(List.getElem?_eq_some_iff.1 hq).1
  rcases hk.pair i j p q hp hq hc with h | h | h | h | h | h
  · exact .inl h
  · exact .inr (.inl ⟨hk.lt j i hj h,h⟩)
  · exact .inr (.inr ⟨hk.lt i j hi h,h⟩)
  · omega
  · omega
  · have:=ZrN h.1;omega
def hid (t:ZaM) (D:Nat→Bool) (K i:Nat):Bool:=(List.range K).any fun j=>!(D j)&&(decide (t.len j≤i)&&decide (i<t.len (j+1)))
def ZgR (t:ZaM) (D:Nat→Bool) (K:Nat):Zd:=(t.HH K).mapIdx fun i b=>bif hid t D K i then .dead else b
theorem ZqA {K i:Nat}:hid t D K i=true↔∃j,j<K∧D j=false∧t.len j≤i∧i<t.len (j+1):=by
  unfold hid
  simp[List.any_eq_true]
theorem Zh8 {K i:Nat}:hid t D K i=false↔∀j,j<K→t.len j≤i→i<t.len (j+1)→D j=true:=by
  rw[← Bool.not_eq_true,ZqA]
  constructor
  · intro h j h1 h2 h3
    cases hd:D j with
    | true=>rfl
    | false=>exact absurd ⟨j,h1,hd,h2,h3⟩ h
  · rintro h ⟨j,h1,h2,h3,h4⟩
    rw[h j h1 h3 h4] at h2;cases h2
theorem ZjC {K i:Nat}:(ZgR t D K)[i]? = ((t.HH K)[i]?).map fun b=>bif hid t D K i then .dead else b:=by
  unfold ZgR
  rw[List.getElem?_mapIdx]
theorem ZsY {K i:Nat}{blk:Blk} (h:(ZgR t D K)[i]? = some blk) (hd:blk ≠ .dead):(t.HH K)[i]? = some blk∧hid t D K i=false:=by
  rw[ZjC] at h
  cases hb:(t.HH K)[i]? with
  | none=>rw[hb] at h;cases h
  | some b=>
    rw[hb] at h
    simp only[Option.map_some,Option.some.injEq] at h
    cases hh:hid t D K i with
    | true=>rw[hh] at h;exact absurd h.symm hd
    | false=>rw[hh] at h;exact⟨by rw[← h];rfl,rfl⟩
theorem ZeX {K i:Nat} (h:hid t D K i=false):(ZgR t D K)[i]? = (t.HH K)[i]?:=by
  rw[ZjC,h]
  cases (t.HH K)[i]?<;>rfl
theorem Zxq (l:List Op1) (a:Nat) (ha:a≤l.length):∃K,a≤K∧K≤l.length∧(∀m p,a≤m→m<K→l[m]? = some p→ZV p≤2)∧(K<l.length→∃p,l[K]? = some p∧3≤ZV p):=by
  have key:∀n a,l.length-a=n→a≤l.length→∃K,a≤K∧K≤l.length∧(∀m p,a≤m→m<K→l[m]? = some p→ZV p≤2)∧(K<l.length→∃p,l[K]? = some p∧3≤ZV p):=by
    intro n
    induction n with
    | zero=>intro a h1 h2;exact⟨a,Nat.le_refl _,h2,fun m p h3 h4=>by omega,fun h=>by omega⟩
    | succ n ih=>
      intro a h1 h2
      have hp:l[a]? = some (l[a]'(by omega)):=List.getElem?_eq_getElem (by omega)
      rcases Nat.lt_or_ge (ZV (l[a]'(by omega))) 3 with h | h
      · obtain⟨K,g1,g2,g3,g4⟩:=ih (a+1) (by omega) (by omega)
        refine⟨K,by omega,g2,fun m p h3 h4 h5=>?_,g4⟩
        by_cases hm:m=a
        · subst hm;rw[hp] at h5;cases h5;omega
        · exact g3 m p (by omega) h4 h5
      · exact⟨a,Nat.le_refl _,h2,fun m p h3 h4=>by omega,fun _=>⟨_,hp,h⟩⟩
  exact key _ a rfl ha
end
end Go.Proofs.YtgcfmiajkbbmeaaGreatE
namespace Go.Proofs.YtgcfmiajkbbmeaaGreatE
open Go
open Go.IntKind (u64 i64 u32 i32 u8)
theorem Zr1 {e e':Env}:∀(g:Option (Nat×Bool)),(∀s b,g=some (s,b)→e s=e' s)→Zcb e g=Zcb e' g
 | none,_=>rfl
 | some (s,b),h=>by simp only[Zcb,h s b rfl]
section
variable {P:Program} {G:Zk} {N:Nat} {Γ:Ctx} {cf:Z4} {t:ZaM} {l:List Op1} {e:Env} {H:Zd} {e':Env} {H':Zd} {os:Array Oper} {B:Nat→Nat→Prop} {Rf:RP} {wf:World}
structure ZuN (P:Program) (N:Nat) (t:ZaM) (l:List Op1) (os:Array Oper) (e:Env) (H:Zd) (Rf:RP) (wf:World) (D:Nat→Bool) (a:Act) (w:World):Prop where
 closed:Zng os D
 ex:∃K R env,K≤l.length∧(∀m p,l[m]? = some p→m<K→3≤ZV p→D m=true)∧(K<l.length→∃p,l[K]? = some p∧3≤ZV p∧D K=false) ∧
  Ext Rf wf R w∧R.OK w∧R.H=ZgR t D K∧(∀i,H.length≤i→(∀j,j<l.length→D j=true→¬(t.len j≤i∧i<t.len (j+1)))→R.M i=none)∧ZeS R w env a ∧
  (∀j p d,l[j]? = some p→p.dst=some d→D j=true→env d=t.VV j)∧(∀d,(∀j p,l[j]? = some p→p.dst=some d→D j=false)→env d=e d)
 tm:N≤a.tmps.size
 df:a.defers=[]
theorem ZvJ (ht:t.OK Γ cf [] l e H e' H') {D:Nat→Bool}{s:Nat}{R:RP}{w:World} (hs:s≤l.length) (ok:R.OK w) (hH:R.H=t.HH s) (hb:∀m p,l[m]? = some p→m<s→2≤ZV p→D m=true) (ha:∀m p,l[m]? = some p→s≤m→2≤ZV p→D m=false) :
  ∃K,K≤l.length∧(∀m p,l[m]? = some p→m<K→3≤ZV p→D m=true)∧(K<l.length→∃p,l[K]? = some p∧3≤ZV p∧D K=false)∧Ext R w { R with H:=ZgR t D K } w∧RP.OK { R with H:=ZgR t D K } w:=by
 obtain⟨K,h1,h2,h3,h4⟩:=Zxq l s hs
 have live:∀(i:Nat) blk,(ZgR t D K)[i]? = some blk→blk ≠ .dead→R.H[i]? = some blk:=fun i blk h hd=>by
  obtain⟨g1,g2⟩:=ZsY h hd
  rw[Zh8] at g2
  have hiK:i<t.len K:=(List.getElem?_eq_some_iff.1 g1).1
  by_cases hi:i<t.len s
  ·rw[hH,← ht.stay K h1 h2 h3 i hi];exact g1
  ·obtain⟨j,f1,f2,f3,f4⟩:=ht.whose K h1 h2 (by omega) hiK
   have hp:l[j]? = some (l[j]'(by omega)):=List.getElem?_eq_getElem (by omega)
   have d1:=ha j _ hp f1 (ht.new2 hp ⟨f3,f4⟩)
   rw[g2 j f2 f3 f4] at d1;cases d1
 refine⟨K,h2,fun m p hp hm hc=>?_,fun hK=>?_,Ext.kill live,ok.kill live⟩
 ·rcases Nat.lt_or_ge m s with h | h
  ·exact hb m p hp h (by omega)
  ·have:=h3 m p h hm hp;omega
 ·obtain⟨p,f1,f2⟩:=h4 hK
  exact⟨p,f1,f2,ha K p f1 h1 (by omega)⟩
def upd (D:Nat→Bool) (j:Nat):Nat→Bool:=fun i=>if i=j then true else D i
theorem step (c:ZgT P G cf Rf wf) (hlo:Rf.H.length≤H.length) (ht:t.OK Γ cf [] l e H e' H') (hk:Chk P G N os l B) {Q:Exit→Act→World→Prop}{D:Nat→Bool}{a:Act}{w:World} (s:ZuN P N t l os e H Rf wf D a w) {j:Nat}{o:Oper} (ho:os[j]? = some o) (hDj:D j=false) (hpre:∀i∈ZlV o,D i=true) :
  wpOp P os Q j (fun a' w'=>ZuN P N t l os e H Rf wf (upd D j) a' w') a w:=by
 obtain⟨K,R,env,hK,hKd,hKn,x,ok,hH,hM,hE,hV,hO⟩:=s.ex
 have hjl:j<l.length:=by rw[← hk.len];exact(Array.getElem?_eq_some_iff.1 ho).1
 obtain⟨p,hp⟩:∃p,l[j]? = some p:=⟨_,List.getElem?_eq_getElem hjl⟩
 have hoper:=hk.oper j o p ho hp
 simp only[ZkB,Bool.and_eq_true] at hoper
 obtain⟨k1,k2,k3⟩:=hoper
 have down:∀i,B i j→D i=true:=fun i hb=>hk.down s.closed j i o ho hpre hb
 have downD:∀i k,k<l.length→D k=true→B i k→D i=true:=fun i k h1 h2 h3=>hk.downD s.closed h1 h2 h3
 have slot:∀d,d∈Zbn p→env d=t.E j d:=fun d hd=>by
  by_cases hx:∃(i:Nat) (q:Op1),l[i]? = some q∧q.dst=some d
  ·obtain⟨i,q,hq,hqd⟩:=hx
   have old:j≤i→D i=false→env d=t.E j d:=fun hji hDi=>by
    rw[hO d fun i' q' hq' hqd'=>by rw[hk.dst i' i q' q d hq' hq hqd' hqd];exact hDi,ht.env0 j (by omega) fun i' q' hi' hq' hqd'=>by
     have:=hk.dst i' i q' q d hq' hq hqd' hqd;omega]
   rcases hk.reads i j q p d hq hp hqd hd with hb | hb | hb
   ·rw[hV i q d hq hqd (down i hb),ht.envd hk hq hqd j (hk.lt j i hjl hb) (by omega)]
   ·have hi:=(List.getElem?_eq_some_iff.1 hq).1
    refine old (Nat.le_of_lt (hk.lt i j hi hb)) ?_
    cases hDi:D i with
    | false=>rfl
    | true=>have:=downD j i hi hDi hb;rw[hDj] at this;cases this
   ·subst hb;exact old (Nat.le_refl _) hDj
  ·have hn:∀(i:Nat) (q:Op1),l[i]? = some q→q.dst≠some d:=fun i q hq hqd=>hx ⟨i,q,hq,hqd⟩
   rw[hO d fun i q hq hqd=>absurd hqd (hn i q hq),ht.env0 j (by omega) fun i q _ hq=>hn i q hq]
 have hg:Zcb env p.guard=some (t.W j):=by
  rw[← ht.w j p hp]
  refine Zr1 _ fun s' b hs=>slot s' ?_
  unfold Zbn
  rw[hs];simp
 have hwant:=Zlt (a:=a) hE k2 hg
 have hop:∀nid Hm,opE Γ cf env nid Hm p.op=opE Γ cf (t.E j) nid Hm p.op:=fun nid Hm=>by
  refine Zu1 _ fun y hy=>?_
  cases y with
  | c v=>rfl
  | t i=>
   refine slot i ?_
   unfold Zbn
   exact List.mem_append_left _ (List.mem_filterMap.2 ⟨.t i,hy,rfl⟩)
 have closed':Zng os (upd D j):=fun k o' hk' hd i hi=>by
  unfold upd at hd ⊢
  by_cases hik:i=j
  ·rw[if_pos hik]
  ·rw[if_neg hik]
   by_cases hkj:k=j
   ·subst hkj;rw[ho] at hk';cases hk';exact hpre i hi
   ·rw[if_neg hkj] at hd;exact s.closed k o' hk' hd i hi
 have fin:∀(K':Nat) (R':RP) (u:Value) (w':World),K'≤l.length→(∀m p,l[m]? = some p→m<K'→3≤ZV p→upd D j m=true)→(K'<l.length→∃p,l[K']? = some p∧3≤ZV p∧upd D j K'=false) →
   Ext R w R' w'→R'.OK w'→R'.H=ZgR t (upd D j) K'→(∀i,R.M i=none→¬(t.len j≤i∧i<t.len (j+1))→R'.M i=none)→ZZ R' w' (t.VV j) u→ZuN P N t l os e H Rf wf (upd D j) (a.put o.dst u) w':=by
  intro K' R' u w' hK' hKd' hKn' x' ok' hH' hM' hv
  refine⟨closed',⟨K',R',Zkt env p.dst (t.VV j),hK',hKd',hKn',x.trans x',ok',hH',fun i hi hni=>?_,ZkJ (x'.envOK ok.b01 hE) k1 s.tm hv,fun i q d hq hqd hd=>?_,fun d hd=>?_⟩,by rw[ZnF];exact s.tm,by rw[Zow];exact s.df⟩
  ·refine hM' i (hM i hi fun m hm hd=>hni m hm ?_) (hni j hjl ?_)
   ·unfold upd;split
    ·rfl
    ·exact hd
   ·unfold upd;rw[if_pos rfl]
  ·cases hpd:p.dst with
   | none=>
    show env d=_
    have hij:i≠j:=fun h=>by subst h;rw[hp] at hq;cases hq;rw[hpd] at hqd;cases hqd
    refine hV i q d hq hqd ?_
    unfold upd at hd;rw[if_neg hij] at hd;exact hd
   | some d'=>
    show(bif Nat.beq d' d then t.VV j else env d)=_
    cases hb:Nat.beq d' d with
    | true=>
     obtain rfl:=Nat.eq_of_beq_eq_true hb
     obtain rfl:=hk.dst i j q p d' hq hp hqd hpd
     rfl
    | false=>
     have hij:i≠j:=fun h=>by
      subst h;rw[hp] at hq;cases hq;rw[hpd] at hqd;cases hqd;rw[Nat.beq_refl] at hb;cases hb
     refine hV i q d hq hqd ?_
     unfold upd at hd;rw[if_neg hij] at hd;exact hd
  ·have h0:env d=e d:=hO d fun i q hq hqd=>by
    have:=hd i q hq hqd
    unfold upd at this
    by_cases hij:i=j
    ·rw[if_pos hij] at this;cases this
    ·rw[if_neg hij] at this;exact this
   cases hpd:p.dst with
   | none=>exact h0
   | some d'=>
    show(bif Nat.beq d' d then t.VV j else env d)=_
    cases hb:Nat.beq d' d with
    | false=>exact h0
    | true=>
     obtain rfl:=Nat.eq_of_beq_eq_true hb
     have:=hd j p hp hpd
     unfold upd at this;rw[if_pos rfl] at this;cases this
 have hlen:=ht.len_succ hjl
 have own:∀i m,m<l.length→(t.len m≤i∧i<t.len (m+1))→(t.len j≤i∧i<t.len (j+1))→m=j:=fun i m hm h1 h2=>ht.one hm hjl h1 h2
 have base:H.length≤t.len j:=by
  have:=ht.len_mono (a:=0) j (by omega) (by omega)
  unfold ZaM.len at this ⊢;rw[ht.h0] at this;exact this
 have free:∀i,t.len j≤i→i<t.len j+(t.NW j).length→R.M i=none:=fun i h1 h2=>hM i (by omega) fun m hm hd h=>by
  have:=own i m hm h ⟨h1,by omega⟩
  subst this;rw[hDj] at hd;cases hd
 rcases Nat.lt_or_ge (ZV p) 3 with hc | hc
 ·
  have hKd':∀m p,l[m]? = some p→m<K→3≤ZV p→upd D j m=true:=fun m p' h1 h2 h3=>by
   unfold upd;split
   ·rfl
   ·exact hKd m p' h1 h2 h3
  have hKn':K<l.length→∃p,l[K]? = some p∧3≤ZV p∧upd D j K=false:=fun h=>by
   obtain⟨q,h1,h2,h3⟩:=hKn h
   refine⟨q,h1,h2,?_⟩
   unfold upd;rw[if_neg (fun h=>by subst h;rw[hp] at h1;cases h1;omega)];exact h3
  have two:2≤ZV p→j<K∧∀m q,j≤m→m<K→l[m]? = some q→ZV q≤2:=fun h2=>by
   constructor
   ·rcases Nat.lt_or_ge j K with h | h
    ·exact h
    ·obtain⟨q,g1,g2,g3⟩:=hKn (by omega)
     rcases hk.order g1 hp g2 h2 with f | f | f
     ·subst f;rw[hp] at g1;cases g1;omega
     ·rw[down K f.2] at g3;cases g3
     ·omega
   ·intro m q h3 h4 hq
    rcases Nat.lt_or_ge (ZV q) 3 with h | h
    ·omega
    ·rcases hk.order hq hp h h2 with f | f | f
     ·subst f;rw[hp] at hq;cases hq;omega
     ·omega
     ·have:=downD j m (by omega) (hKd m q hq h4 h) f.2
      rw[hDj] at this;cases this
  have stg:∀i,(ZgR t (upd D j) K)[i]? = if t.len j≤i∧i<t.len j+(t.NW j).length then (t.NW j)[i-t.len j]? else (ZgR t D K)[i]?:=fun i=>by
   by_cases hi:t.len j≤i∧i<t.len j+(t.NW j).length
   ·rw[if_pos hi]
    have h2:=ht.new2 hp (i:=i) ⟨hi.1,by omega⟩
    obtain⟨t1,t2⟩:=two h2
    rw[ZeX]
    ·rw[ht.stay (a:=j+1) K (by omega) hK (fun m q h3 h4 hq=>t2 m q (by omega) h4 hq) i (by omega),ht.stay1 hp (by omega),List.getElem?_append_right hi.1]
     rfl
    ·rw[Zh8]
     intro m hm h3 h4
     have:=own i m (by omega) ⟨h3,h4⟩ ⟨hi.1,by omega⟩
     unfold upd;rw[if_pos this]
   ·rw[if_neg hi,ZjC,ZjC]
    have:hid t (upd D j) K i=hid t D K i:=by
     rw[Bool.eq_iff_iff,ZqA,ZqA]
     constructor
     ·rintro ⟨m,h1,h2,h3⟩
      unfold upd at h2
      by_cases hm:m=j
      ·rw[if_pos hm] at h2;cases h2
      ·rw[if_neg hm] at h2;exact⟨m,h1,h2,h3⟩
     ·rintro ⟨m,h1,h2,h3,h4⟩
      have hm:m≠j:=fun h=>by subst h;omega
      exact⟨m,h1,by unfold upd;rw[if_neg hm];exact h2,h3,h4⟩
    rw[this]
  have hpl:t.UP j=[]:=ht.noUp hp (by omega)
  unfold wpOp
  simp only[ho]
  cases hw:t.W j with
  | false=>
   rw[hw] at hwant
   rw[hwant]
   simp only[Bool.false_eq_true,if_false]
   obtain⟨n1,n2,n3⟩:=ht.n j p hp hw
   refine fin K R undef w hK hKd' hKn' (Ext.refl R w) ok ?_ (fun i h _=>h) (by rw[n1];exact Zn7)
   rw[hH]
   apply List.ext_getElem?
   intro i
   rw[stg i,n3,if_neg (by rintro ⟨h1,h2⟩;simp at h2;omega)]
  | true=>
   rw[hw] at hwant
   rw[hwant]
   simp only[if_true]
   obtain⟨y1,y2⟩:=ht.y j p hp hw
   rw[hpl] at y1
   have see:ZV p≤2→∀i blk,(ZeI (t.HH j) ([]++t.pos j) p.mask)[i]? = some blk→blk ≠ .dead→(t.HH j)[i]? = some blk∧∀m,m<j→t.len m≤i→i<t.len (m+1)→D m=true:=fun _ i blk h hd=>by
    obtain⟨h1,h2⟩:=Zmr _ _ _ i blk h hd
    refine⟨h1,fun m hm h3 h4=>?_⟩
    have hq:l[m]? = some (l[m]'(by omega)):=List.getElem?_eq_getElem (by omega)
    rcases hk.early m j _ p hq hp hm with f | f | f
    ·omega
    ·exact down m f
    ·have h5:=h2 m f (t.len m) (t.NW m).length (by simp[ZaM.pos,hm,ZaM.len])
     have:=ht.len_succ (j:=m) (by omega)
     omega
   have hHm:∃Hm,(∀b blk,nth Hm b=some blk→blk ≠ .dead→nth R.H b=some blk)∧opE Γ cf env (t.len j) Hm p.op=some (t.VV j,[],t.NW j):=by
    rcases Nat.lt_or_ge (ZV p) 2 with h2 | h2
    ·rcases ZpY (p:=p) (by omega) with⟨_,h0⟩ | ⟨h01,h1,hne⟩ | ⟨h01,he1⟩
     ·refine⟨[],fun b blk hb=>by simp[nth] at hb,?_⟩
      rw[hop,Zy1 (nid':=(t.HH j).length) (H':=ZeI (t.HH j) ([]++t.pos j) p.mask) h0];exact y1
     ·refine⟨R.H,fun b blk hb _=>hb,?_⟩
      rw[hop]
      refine ZyZ (H:=ZeI (t.HH j) ([]++t.pos j) p.mask) (fun b blk hb hd=>?_) h1 y1
      rw[ZA] at hb
      obtain⟨g1,g2⟩:=see (by omega) b blk hb hd
      have hbj:b<t.len j:=(List.getElem?_eq_some_iff.1 g1).1
      have hbK:b<t.len K:=by
       rcases Nat.lt_or_ge j K with h | h
       ·have:=ht.len_mono (a:=j) K (by omega) hK;omega
       ·by_cases hb0:b<t.len 0
        ·have:=ht.len_mono (a:=0) K (by omega) hK;omega
        ·obtain⟨m,_,f2,f3,f4⟩:=ht.whose (a:=0) j (by omega) (by omega) (by omega) hbj
         have hdm:=g2 m f2 f3 f4
         have hq:l[m]? = some (l[m]'(by omega)):=List.getElem?_eq_getElem (by omega)
         have hmK:m<K:=by
          rcases Nat.lt_or_ge m K with h' | h'
          ·exact h'
          ·obtain⟨q,q1,q2,q3⟩:=hKn (by omega)
           rcases hk.order q1 hq q2 (ht.new2 hq ⟨f3,f4⟩) with f | f | f
           ·subst f;rw[hdm] at q3;cases q3
           ·rw[downD K m (by omega) hdm f.2] at q3;cases q3
           ·omega
         have:=ht.len_mono (a:=m+1) K (by omega) hK;omega
      have hhid:hid t D K b=false:=by
       rw[Zh8]
       intro m hm h3 h4
       rcases Nat.lt_or_ge m j with h | h
       ·exact g2 m h h3 h4
       ·have:=ht.len_mono (a:=j) m h (by omega);omega
      rw[ZA,hH,ZeX hhid]
      have three:∀m q,l[m]? = some q→(j≤m∧m<K∨K≤m∧m<j)→ZV q≤3:=fun m q hq hm=>by
       rcases Nat.lt_or_ge (ZV q) 3 with h | h
       ·omega
       ·rcases hk.pair m j q p hq hp h with f | f | f | f | f | f
        ·subst f;rw[hp] at hq;cases hq;omega
        ·rcases hm with hm | hm
         ·have:=hk.lt j m hjl f;omega
         ·have hdm:=down m f
          obtain⟨q',q1,q2,q3⟩:=hKn (by omega)
          rcases hk.order q1 hq q2 (by omega) with g | g | g
          ·subst g;rw[hdm] at q3;cases q3
          ·rw[downD K m (by omega) hdm g.2] at q3;cases q3
          ·omega
        ·rcases hm with hm | hm
         ·have:=downD j m (by omega) (hKd m q hq hm.2 h) f
          rw[hDj] at this;cases this
         ·have:=hk.lt m j (by omega) f;omega
        ·omega
        ·omega
        ·exact absurd f.1 hne
      rcases Nat.le_total j K with h | h
      ·obtain⟨x1,y1',z1,z2,z3⟩:=ht.like hk (a:=j) K h hK (fun m q h3 h4 hq=>three m q hq (.inl ⟨h3,h4⟩)) b hbj
       rw[g1] at z1;cases z1
       exact⟨y1',z2,z3.elim (fun h=>h ▸ Blk.like_refl hd) id⟩
      ·obtain⟨x1,y1',z1,z2,z3⟩:=ht.like hk (a:=K) j h (by omega) (fun m q h3 h4 hq=>three m q hq (.inr ⟨h3,h4⟩)) b hbK
       rw[g1] at z2;cases z2
       exact⟨x1,z1,z3.elim (fun h=>by subst h;exact Blk.like_refl hd) Blk.like_symm⟩
     ·
      obtain⟨n0,ag0,s',hops,hgd⟩:∃n0 ag0 s',p.op = .load n0 ag0 (.t s')∧p.guard=none:=by
       have:=hk.eff1 j p hp
       unfold ZsD at this
       rw[he1] at this
       change (match p.op,p.guard with | .load _ _ (.t _),none=>true | _,_=>false)=true at this
       split at this
       ·exact⟨_,_,_,by assumption,by assumption⟩
       ·cases this
      have hsl:s'∈Zbn p:=by unfold Zbn;rw[hops];simp[ZtQ,ZxC]
      have hjK:j<K:=by
       rcases Nat.lt_or_ge j K with h | h
       ·exact h
       ·obtain⟨q,g1,g2,g3⟩:=hKn (by omega)
        rcases hk.pair K j q p g1 hp g2 with f | f | f | f | f | f
        ·subst f;rw[hp] at g1;cases g1;omega
        ·rw[down K f] at g3;cases g3
        ·have:=hk.lt K j (by omega) f;omega
        ·omega
        ·exact absurd he1 f.2.2
        ·omega
      have ldE:∀(Hx:Zd) (k:Nat),opE Γ cf (t.E j) k Hx p.op=(match ZbO Hx n0 ag0 (t.E j s') with | some v=>ZaH v | none=>none):=fun Hx k=>by rw[hops];rfl
      rw[ldE] at y1
      have hyl:ZbO (ZeI (t.HH j) ([]++t.pos j) p.mask) n0 ag0 (t.E j s')=some (t.VV j)∧t.NW j=[]:=by
       cases hl:ZbO (ZeI (t.HH j) ([]++t.pos j) p.mask) n0 ag0 (t.E j s') with
       | none=>rw[hl] at y1;cases y1
       | some v=>
        rw[hl] at y1
        obtain⟨rfl,_,h3⟩:=ZJ y1
        exact⟨rfl,h3⟩
      obtain⟨hyl,hnw⟩:=hyl
      have key:∀k,j≤k→k≤K→ZbO (t.HH k) n0 ag0 (t.E j s')=some (t.VV j):=by
       intro k
       induction k with
       | zero=>
        intro h _
        have:j=0:=by omega
        subst this
        exact Zjs hyl fun b _ blk hb hd=>(see (by omega) b blk hb hd).1
       | succ k ih=>
        intro hjk hkK
        by_cases hjk':j=k+1
        ·subst hjk'
         exact Zjs hyl fun b _ blk hb hd=>(see (by omega) b blk hb hd).1
        ·have ih':=ih (by omega) (by omega)
         have hq:l[k]? = some (l[k]'(by omega)):=List.getElem?_eq_getElem (by omega)
         have app:∀(Ha Hb:Zd),ZbO Ha n0 ag0 (t.E j s')=some (t.VV j)→ZbO (Ha++Hb) n0 ag0 (t.E j s')=some (t.VV j):=fun Ha Hb hl=>
          Zjs hl fun b _ blk hb _=>by rw[List.getElem?_append_left (List.getElem?_eq_some_iff.1 hb).1];exact hb
         rcases Nat.lt_or_ge (ZV (l[k]'(by omega))) 3 with h | h
         ·rw[ht.stay1 hq (by omega)]
          exact app _ _ ih'
         ·rcases hk.pair k j _ p hq hp h with f | f | f | f | f | f
          ·subst f
           rw[hp] at hq
           have hq':=Option.some.inj hq
           rw[← hq'] at h
           omega
          ·have:=hk.lt j k hjl f;omega
          ·have:=downD j k (by omega) (hKd k _ hq (by omega) h) f
           rw[hDj] at this;cases this
          ·omega
          ·exact absurd he1 f.2.2
          ·cases hwk:t.W k with
           | false=>
            obtain⟨_,n2,n3⟩:=ht.n k _ hq hwk
            rw[ht.h k _ hq,n2,n3]
            exact app _ _ ih'
           | true=>
            have zc:=(ZlG (ht.y k _ hq hwk).2).2
            have hkp:=f.2.2
            unfold ZwE at hkp
            rw[hops] at hkp
            split at hkp
            ·rename_i f' args chk s'' hopk hsx
             cases hsx
             rw[hopk] at zc
             obtain⟨i0,q1,q2⟩:=ZsB (show ZuX (t.E k) (t.HH k) (Za1 (t.HH k) (t.UP k)) chk=true from zc) hkp
             rw[ht.envs hk hp he1 hsl k (by omega) (by omega)] at q1 q2
             rw[q1] at ih'
             rw[ht.h k _ hq]
             exact app _ _ (q2.trans ih')
            ·rename_i m' x' y' chk n' a' s'' hopk hsx
             cases hsx
             rw[hopk] at zc
             have ap:=ZnR (show Zmc (t.E k) (t.UP k) chk=true from zc) hkp
             rw[ht.envs hk hp he1 hsl k (by omega) (by omega)] at ap
             rw[ht.h k _ hq]
             refine app _ _ (Zjs ih' fun b hb blk hbk _=>?_)
             rw[Zrs (ap b hb)]
             exact hbk
            ·cases hkp
      refine⟨R.H,fun b blk hb _=>hb,?_⟩
      rw[hop,ldE]
      have:ZbO R.H n0 ag0 (t.E j s')=some (t.VV j):=by
       refine Zjs (key K (by omega) (Nat.le_refl _)) fun b hb blk hbk hd=>?_
       obtain⟨blk0,h5,h6⟩:=ZuJ hyl hb
       obtain⟨g1,g2⟩:=see (by omega) b blk0 h5 h6
       have hbj:b<t.len j:=(List.getElem?_eq_some_iff.1 g1).1
       rw[hH,ZeX]
       ·exact hbk
       ·rw[Zh8]
        intro m hm h3 h4
        rcases Nat.lt_or_ge m j with h | h
        ·exact g2 m h h3 h4
        ·have:=ht.len_mono (a:=j) m h (by omega);omega
      rw[this,hnw];rfl
    ·obtain⟨t1,t2⟩:=two h2
     refine⟨_,fun b blk hb hd=>?_,by rw[hop];exact y1⟩
     rw[ZA] at hb
     obtain⟨g1,g2⟩:=see (by omega) b blk hb hd
     have hbj:b<t.len j:=(List.getElem?_eq_some_iff.1 g1).1
     rw[ZA,hH,ZeX,ht.stay K (by omega) hK t2 b hbj]
     ·exact g1
     ·rw[Zh8]
      intro m hm h3 h4
      rcases Nat.lt_or_ge m j with h | h
      ·exact g2 m h h3 h4
      ·have:=ht.len_mono (a:=j) m h (by omega);omega
   obtain⟨Hm,hle,hop'⟩:=hHm
   have pre:Pre G R w env a Hm:=⟨ok,x.gok c.ok.b01 c.g,hE,hle⟩
   have hplaced:ZC R.H [] (t.len j) (t.NW j) (ZgR t (upd D j) K):=fun i=>by rw[stg i,hH];rfl
   refine .inl ((Zuk pre c.cf k3 hop' free hplaced).wp fun u w' hpost=>?_)
   obtain⟨R',x',ok',hH',hv,hM'⟩:=hpost
   exact fin K R' u w' hK hKd' hKn' x' ok' hH' (fun i h1 h2=>hM' i h1 (by omega)) hv
 ·
  have hjK:j=K:=by
   rcases Nat.lt_trichotomy j K with h | h | h
   ·rw[hKd j p hp h hc] at hDj;cases hDj
   ·exact h
   ·obtain⟨q,g1,g2,g3⟩:=hKn (by omega)
    rcases hk.order g1 hp g2 (by omega) with f | f | f
    ·omega
    ·rw[down K f.2] at g3;cases g3
    ·omega
  subst hjK
  have below:∀m q,l[m]? = some q→m<j→2≤ZV q→D m=true:=fun m q hq hm h2=>by
   rcases hk.order hp hq hc h2 with f | f | f
   ·omega
   ·omega
   ·exact down m f.2
  have above:∀m q,l[m]? = some q→j<m→2≤ZV q→D m=false:=fun m q hq hm h2=>by
   cases hd:D m with
   | false=>rfl
   | true=>
    rcases hk.order hp hq hc h2 with f | f | f
    ·omega
    ·have:=downD j m (List.getElem?_eq_some_iff.1 hq).1 hd f.2
     rw[hDj] at this;cases this
    ·omega
  have full:ZgR t D j=t.HH j:=by
   apply List.ext_getElem?
   intro i
   refine ZeX (Zh8.2 fun m hm h3 h4=>?_)
   have hq:l[m]? = some (l[m]'(by omega)):=List.getElem?_eq_getElem (by omega)
   exact below m _ hq hm (ht.new2 hq ⟨h3,h4⟩)
  rw[full] at hH
  have go:∀(R':RP) (u:Value) (w':World),Ext R w R' w'→R'.OK w'→R'.H=t.HH (j+1)→(∀i,R.M i=none→¬(t.len j≤i∧i<t.len (j+1))→R'.M i=none)→ZZ R' w' (t.VV j) u→ZuN P N t l os e H Rf wf (upd D j) (a.put o.dst u) w':=by
   intro R' u w' x' ok' hH' hM' hv
   obtain⟨K',g1,g2,g3,g4,g5⟩:=ZvJ ht (D:=upd D j) (s:=j+1) (by omega) ok' hH' (fun m q hq hm h2=>by
    unfold upd
    by_cases hmj:m=j
    ·rw[if_pos hmj]
    ·rw[if_neg hmj];exact below m q hq (by omega) h2) (fun m q hq hm h2=>by
    unfold upd;rw[if_neg (by omega)];exact above m q hq (by omega) h2)
   exact fin K' _ u w' g1 g2 g3 (x'.trans g4) g5 rfl hM' (g4.denV ok'.b01 _ _ hv)
  unfold wpOp
  simp only[ho]
  cases hw:t.W j with
  | false=>
   rw[hw] at hwant
   rw[hwant]
   simp only[Bool.false_eq_true,if_false]
   obtain⟨n1,n2,n3⟩:=ht.n j p hp hw
   refine go R undef w (Ext.refl R w) ok ?_ (fun i h _=>h) (by rw[n1];exact Zn7)
   rw[hH,ht.h j p hp,n2,n3];simp[Za1]
  | true=>
   rw[hw] at hwant
   rw[hwant]
   simp only[if_true]
   obtain⟨y1,y2⟩:=ht.y j p hp hw
   rw[hk.mask j p hp hc] at y1
   have pre:Pre G R w env a (t.HH j):=⟨ok,x.gok c.ok.b01 c.g,hE,fun b blk hb _=>by rw[hH];exact hb⟩
   have hplaced:ZC R.H (t.UP j) (t.len j) (t.NW j) (t.HH (j+1)):=by
    rw[hH,ht.h j p hp];exact ZgB _ _ _
   refine .inl ((Zuk pre c.cf k3 (by rw[hop];exact y1) free hplaced).wp fun u w' hpost=>?_)
   obtain⟨R',x',ok',hH',hv,hM'⟩:=hpost
   exact go R' u w' x' ok' hH' (fun i h1 h2=>hM' i h1 (by omega)) hv
theorem Zqf {p q:Nat→Bool}:∀(l:List Nat) (j:Nat),(∀x,q x=true→p x=true)→j∈l→p j=true→q j=false→l.countP q<l.countP p
 | [],j,_,h,_,_=>by cases h
 | x :: l,j,hq,h,h1,h2=>by
  have mono:∀l:List Nat,l.countP q≤l.countP p:=fun l=>List.countP_mono_left fun x _ h=>hq x h
  rw[List.countP_cons,List.countP_cons]
  by_cases hx:x=j
  ·subst hx
   have:=mono l
   rw[h1,h2];simp;omega
  ·have:=Zqf l j hq ((List.mem_cons.1 h).resolve_left (fun h=>hx h.symm)) h1 h2
   cases hqx:q x with
   | true=>rw[hq x hqx];simp;omega
   | false=>cases hpx:p x<;>simp<;>omega
theorem ZvM (c:ZgT P G cf Rf wf) (hlo:Rf.H.length≤H.length) (ht:t.OK Γ cf [] l e H e' H') (hk:Chk P G N os l B) {Q:Exit→Act→World→Prop} (hQ:∀D a w,(∀j,j<l.length→D j=true)→ZuN P N t l os e H Rf wf D a w→Q .normal a w) :
  ∀(fuel:Nat) (listed:Array Bool) (a:Act) (w:World),listed.size=os.size→ZuN P N t l os e H Rf wf (fun j=>listed.getD j false) a w→(List.range os.size).countP (fun j=>!listed.getD j false)≤fuel→wpAny P .any os Q fuel listed a w:=by
 have full:∀(listed:Array Bool),listed.size=os.size→(Region.ready .any os listed=[])→∀j,j<l.length→listed.getD j false=true:=by
  intro listed hsz hr j
  induction j using Nat.strongRecOn with
  | ind j ih=>
   intro hj
   have hjs:j<os.size:=by rw[hk.len];exact hj
   cases hd:listed.getD j false with
   | true=>rfl
   | false=>
    have:j∈Region.ready .any os listed:=by
     rw[mem_ready]
     refine⟨?_,os[j],Array.getElem?_eq_getElem hjs,fun ed he hb=>?_⟩
     ·simp only[Array.getD_eq_getD_getElem?] at hd ⊢
      rw[Array.getElem?_eq_getElem (by omega)] at hd ⊢;exact hd
     ·have hlt:=hk.pre j _ (Array.getElem?_eq_getElem hjs) ed.on (by
       unfold ZlV
       exact List.mem_map.2 ⟨ed,List.mem_filter.2 ⟨by simpa using he,hb⟩,rfl⟩)
      exact ih ed.on hlt (by omega)
    rw[hr] at this;cases this
 intro fuel
 induction fuel with
 | zero=>
  intro listed a w hsz s hc
  have hall:∀j,j<l.length→listed.getD j false=true:=fun j hj=>by
   cases hd:listed.getD j false with
   | true=>rfl
   | false=>
    have h1:0<(List.range os.size).countP (fun j=>!listed.getD j false):=List.countP_pos_iff.2 ⟨j,by simp[hk.len,hj],by simp only[hd];rfl⟩
    omega
  refine⟨?_,hQ _ a w hall s⟩
  apply List.eq_nil_iff_forall_not_mem.2
  intro j hj
  obtain⟨h1,o,h2,_⟩:=mem_ready.1 hj
  have hjs:=(Array.getElem?_eq_some_iff.1 h2).1
  have:=hall j (by rw[← hk.len];exact hjs)
  simp only[Array.getD_eq_getD_getElem?] at h1 this
  rw[Array.getElem?_eq_getElem (by omega)] at h1 this
  simp at h1 this;rw[h1] at this;cases this
 | succ fuel ih=>
  intro listed a w hsz s hc
  refine⟨fun hr=>hQ _ a w (full listed hsz hr) s,fun j hj=>?_⟩
  obtain⟨h1,o,h2,h3⟩:=mem_ready.1 hj
  have hjs:=(Array.getElem?_eq_some_iff.1 h2).1
  have hd:listed.getD j false=false:=by
   simp only[Array.getD_eq_getD_getElem?] at h1 ⊢
   rw[Array.getElem?_eq_getElem (by omega)] at h1 ⊢;exact h1
  have hup:upd (fun j=>listed.getD j false) j=fun k=>(listed.setIfInBounds j true).getD k false:=by
   funext k
   unfold upd
   by_cases hkj:k=j
   ·subst hkj
    rw[if_pos rfl]
    simp[Array.getD_eq_getD_getElem?,hsz,hjs]
   ·rw[if_neg hkj,getD_set_ne false (fun h=>hkj h.symm)]
  refine wpOp_mono (fun a' w' s'=>ih _ a' w' (by simp[hsz]) s' ?_) (hup ▸ step c hlo ht hk s h2 hd fun i hi=>?_)
  ·have:=Zqf (p:=fun j=>!listed.getD j false) (q:=fun k=>!(listed.setIfInBounds j true).getD k false) (List.range os.size) j (fun k hk'=>by
    by_cases hkj:j=k
    ·subst hkj;simp only[hd];rfl
    ·rw[getD_set_ne false hkj] at hk';exact hk') (by simp[hjs]) (by simp only[hd];rfl) (by simp[Array.getD_eq_getD_getElem?,hsz,hjs])
   omega
  ·unfold ZlV at hi
   obtain⟨ed,f1,rfl⟩:=List.mem_map.1 hi
   obtain⟨f2,f3⟩:=List.mem_filter.1 f1
   exact h3 ed (by simpa using f2) f3
end
theorem ZyJ {P:Program}{G:Zk}{N:Nat}{Γ:Ctx}{cf:Z4}:Zky P G N Γ cf (Zn P G N):=by
 intro id os l Rf wf e H e' H' a w hok hd c s
 obtain⟨B,hk⟩:=Ztf hok
 obtain⟨t,ht⟩:=Zn1 l [] e H e' H' hd
 obtain⟨R,x,ok,hH,hM,hE⟩:=s.ex
 refine wp_region_any hk.mixed ?_
 have xd:Ext R w R { w with drawn:=w.drawn+1 }:=Ext.draw rfl rfl rfl rfl
 have okd:R.OK { w with drawn:=w.drawn+1 }:=ok.draw rfl rfl rfl rfl
 refine ZvM c s.hl ht hk (fun D a' w' hall s'=>?_) os.size _ a _ (by simp) ?_ ?_
 ·obtain⟨K,R',env,h1,h2,h3,x',ok',hH',hM',hE',hV,hO⟩:=s'.ex
  have hKl:K=l.length:=by
   rcases Nat.lt_or_ge K l.length with h | h
   ·obtain⟨_,_,_,h4⟩:=h3 h
    rw[hall K h] at h4;cases h4
   ·omega
  subst hKl
  have hHe:ZgR t D l.length=H':=by
   rw[← ht.h1]
   apply List.ext_getElem?
   intro i
   exact ZeX (Zh8.2 fun m hm _ _=>hall m hm)
  have hle:H.length≤H'.length:=by
   have:=ht.len_mono (a:=0) l.length (by omega) (Nat.le_refl _)
   unfold ZaM.len at this;rw[ht.h0,ht.h1] at this;exact this
  have henv:∀d,env d=e' d:=fun d=>by
   rw[← ht.e1]
   by_cases hx:∃(i:Nat) (q:Op1),l[i]? = some q∧q.dst=some d
   ·obtain⟨i,q,hq,hqd⟩:=hx
    have hi:=(List.getElem?_eq_some_iff.1 hq).1
    rw[hV i q d hq hqd (hall i hi),ht.envd hk hq hqd l.length hi (Nat.le_refl _)]
   ·have hn:∀(i:Nat) (q:Op1),l[i]? = some q→q.dst≠some d:=fun i q hq hqd=>hx ⟨i,q,hq,hqd⟩
    rw[hO d fun i q hq hqd=>absurd hqd (hn i q hq),ht.env0 l.length (Nat.le_refl _) fun i q _ hq=>hn i q hq]
  refine⟨rfl,⟨⟨R',x',ok',by rw[hH',hHe],fun i hi=>hM' i (by omega) fun j hj _ hb=>?_,fun d=>by rw[← henv d];exact hE' d⟩,s'.tm,s'.df,by have:=s.hl;omega⟩⟩
  have:=ht.len_mono (a:=j+1) l.length (by omega) (Nat.le_refl _)
  have h2:t.len l.length=H'.length:=by unfold ZaM.len;rw[ht.h1]
  omega
 ·have hf:∀j,(Array.replicate os.size false).getD j false=false:=fun j=>by
   by_cases hj:j<os.size<;>simp[Array.getD_eq_getD_getElem?,hj]
  obtain⟨K,g1,g2,g3,g4,g5⟩:=ZvJ ht (D:=fun j=>(Array.replicate os.size false).getD j false) (s:=0) (Nat.zero_le _) okd (by rw[ht.h0];exact hH) (fun m p _ hm=>by omega) (fun m p _ _ _=>hf m)
  refine⟨fun j o _ hd=>(by rw[hf j] at hd;cases hd),⟨K,_,e,g1,g2,g3,(x.trans xd).trans g4,g5,rfl,fun i hi _=>hM i hi,g4.envOK okd.b01 (xd.envOK ok.b01 hE),fun j p d _ _ hd=>(by rw[hf j] at hd;cases hd),fun d _=>rfl⟩,s.tm,s.df⟩
 ·exact Nat.le_trans List.countP_le_length (by simp)
theorem ZvF {P:Program}{G:Zk}{Γ:Ctx} (hall:∀f fn,Γ.code f=some fn→ZF P G (fun N=>Zn P G N) f fn=true∨ZlZ P G f fn):Zei P G (evW Γ):=
 ZzA (fun _ _ _=>ZyJ) hall
end Go.Proofs.YtgcfmiajkbbmeaaGreatE
namespace Go.Proofs.YtgcfmiajkbbmeaaGreat
open Go Go.Proofs Go.Proofs.YtgcfmiajkbbmeaaGreatE
open Go.IntKind (u64 i64 u32 i32 u8)
theorem ZvW (x:Int):0≤u64.wrap x∧u64.wrap x<18446744073709551616:=by
 have:u64.wrap x=x % 18446744073709551616:=by simp[IntKind.wrap,IntKind.bits,IntKind.signed]
 omega
theorem tz0 (n:Int) (w:World) (hw:∀i,i<64→∃m,w.cell? ⟨1,i,none⟩=some (.int .u8 m)):Calls Tryz.prog 207 #[.int .u64 n] w fun e w'=>∃u,e = .returned u∧w'=w:=by
 have hr:=ZvW (bits BinOp.and u64 n (u64.wrap (-n))*285870213051353865)
 obtain⟨m,hm⟩:=hw (u64.wrap (bits BinOp.and u64 n (u64.wrap (-n))*285870213051353865) / 288230376151711744).toNat (by omega)
 go_enter Tryz.func207,Tryz.ntmps207
 go_wp2
 all_goals
  go_ret
  exact⟨_,rfl,rfl⟩
theorem Ztn:∀l:List (IntKind×Int),gD l=l.map fun x=>D.int x.1 x.2
 | []=>rfl
 | x :: r=>by show _ :: gD r=_;rw[Ztn r];rfl
theorem ZAv {G:Zk}{row:List (IntKind×Int)} (hg:G 1=some row) (hl:row.length=64) (hk:∀x∈row,x.1 = .u8):ZwF Tryz.prog G 207:=by
 intro n R w ok g
 refine tz0 n w fun i hi=>?_
 obtain⟨b,off,h1,_,_,h2⟩:=g 1 row hg
 cases h1
 have hx:(gD row)[i]? = some (.int row[i].1 row[i].2):=by rw[Ztn,List.getElem?_map,List.getElem?_eq_getElem (by omega)];rfl
 obtain⟨u,q1,q2⟩:=ZgM _ _ _ _ h2 hx
 have hu:u = .int row[i].1 row[i].2:=q2
 rw[hk _ (List.getElem_mem _)] at hu
 rw[Nat.zero_add] at q1
 exact⟨_,by rw[q1,hu]⟩
def ZnU (G:Zk):Prop:=∃row:List (IntKind×Int),G 1=some row∧row.length=64∧∀x∈row,x.1 = .u8
theorem ZyE {G:Zk} (hG:ZnU G):ZwF Tryz.prog G 207:=by
 obtain⟨row,h1,h2,h3⟩:=hG
 exact ZAv h1 h2 h3
open Go Go.Proofs Go.Proofs.YtgcfmiajkbbmeaaGreatE Go.Shelf Go.Sort
def Zyn:Ren:=⟨fun | 189=>110 | 125=>117 | 257=>116 | 128=>131 | 129=>132 | 294=>122 | 295=>123 | 296=>124 | 297=>125 | 298=>126 | 299=>127 | 216=>128 | 300=>129 | 301=>130 | 328=>136 | 329=>137 | 330=>138 | 331=>139 | 332=>140 | 215=>141 | 343=>142 | n=>n,fun | 28=>22 | 3=>3 | 46=>155 | 0=>0 | 51=>169 | 53=>171 | 4=>4 | 183=>163 | 182=>162 | 131=>149 | 5=>5 | 9=>9 | 218=>175 | 222=>179 | 228=>181 | 229=>182 | n=>n,fun n=>n⟩
theorem Zr6:Lays.n189 Tryz.prog Zyn where
 mixed:=by kernel_rfl
 f125:=Tryz.func117.trans (congrArg some (by kernel_rfl))
 f128:=Tryz.func131.trans (congrArg some (by kernel_rfl))
 f129:=Tryz.func132.trans (congrArg some (by kernel_rfl))
 f189:=Tryz.func110.trans (congrArg some (by kernel_rfl))
 f215:=Tryz.func141.trans (congrArg some (by kernel_rfl))
 f216:=Tryz.func128.trans (congrArg some (by kernel_rfl))
 f257:=Tryz.func116.trans (congrArg some (by kernel_rfl))
 f294:=Tryz.func122.trans (congrArg some (by kernel_rfl))
 f295:=Tryz.func123.trans (congrArg some (by kernel_rfl))
 f296:=Tryz.func124.trans (congrArg some (by kernel_rfl))
 f297:=Tryz.func125.trans (congrArg some (by kernel_rfl))
 f298:=Tryz.func126.trans (congrArg some (by kernel_rfl))
 f299:=Tryz.func127.trans (congrArg some (by kernel_rfl))
 f300:=Tryz.func129.trans (congrArg some (by kernel_rfl))
 f301:=Tryz.func130.trans (congrArg some (by kernel_rfl))
 f328:=Tryz.func136.trans (congrArg some (by kernel_rfl))
 f329:=Tryz.func137.trans (congrArg some (by kernel_rfl))
 f330:=Tryz.func138.trans (congrArg some (by kernel_rfl))
 f331:=Tryz.func139.trans (congrArg some (by kernel_rfl))
 f332:=Tryz.func140.trans (congrArg some (by kernel_rfl))
 f343:=Tryz.func142.trans (congrArg some (by kernel_rfl))
 t0:=Tryz.underlying0
 a0:=Tryz.isAgg0
 z0:=Tryz.sizeOf0
 v0:=Tryz.zeroValue0
 t3:=Tryz.underlying3
 a3:=Tryz.isAgg3
 z3:=Tryz.sizeOf3
 v3:=Tryz.zeroValue3
 t4:=Tryz.underlying4
 a4:=Tryz.isAgg4
 z4:=Tryz.sizeOf4
 v4:=Tryz.zeroValue4
 t5:=Tryz.underlying5
 a5:=Tryz.isAgg5
 z5:=Tryz.sizeOf5
 v5:=Tryz.zeroValue5
 t9:=Tryz.underlying9
 a9:=Tryz.isAgg9
 z9:=Tryz.sizeOf9
 v9:=Tryz.zeroValue9
 t28:=Tryz.underlying22
 a28:=Tryz.isAgg22
 z28:=Tryz.sizeOf22
 v28:=Tryz.zeroValue22
 t46:=Tryz.underlying155
 a46:=Tryz.isAgg155
 z46:=Tryz.sizeOf155
 v46:=Tryz.zeroValue155
 t51:=Tryz.underlying169
 a51:=Tryz.isAgg169
 z51:=Tryz.sizeOf169
 v51:=Tryz.zeroValue169
 t53:=Tryz.underlying171
 a53:=Tryz.isAgg171
 z53:=Tryz.sizeOf171
 v53:=Tryz.zeroValue171
 t131:=Tryz.underlying149
 a131:=Tryz.isAgg149
 z131:=Tryz.sizeOf149
 v131:=Tryz.zeroValue149
 t182:=Tryz.underlying162
 a182:=Tryz.isAgg162
 z182:=Tryz.sizeOf162
 v182:=Tryz.zeroValue162
 t183:=Tryz.underlying163
 a183:=Tryz.isAgg163
 z183:=Tryz.sizeOf163
 v183:=Tryz.zeroValue163
 t218:=Tryz.underlying175
 a218:=Tryz.isAgg175
 z218:=Tryz.sizeOf175
 v218:=Tryz.zeroValue175
 t222:=Tryz.underlying179
 a222:=Tryz.isAgg179
 z222:=Tryz.sizeOf179
 v222:=Tryz.zeroValue179
 t228:=Tryz.underlying181
 a228:=Tryz.isAgg181
 z228:=Tryz.sizeOf181
 v228:=Tryz.zeroValue181
 t229:=Tryz.underlying182
 a229:=Tryz.isAgg182
 z229:=Tryz.sizeOf182
 v229:=Tryz.zeroValue182
theorem ZlJ (x:Int):∀l:List Int,(Zqt x l).Perm (x :: l)
 | []=>.refl _
 | y :: r=>by
  unfold Zqt
  cases decide (x≤y) with
  | true=>exact .refl _
  | false=>exact((ZlJ x r).cons y).trans (.swap x y r)
theorem Zmy (x:Int):∀l:List Int,l.Pairwise (· ≤ ·)→(Zqt x l).Pairwise (· ≤ ·)
 | [],_=>by simp[Zqt]
 | y :: r,h=>by
  have h':=List.pairwise_cons.1 h
  unfold Zqt
  cases hd:decide (x≤y) with
  | true=>
   have hxy:=of_decide_eq_true hd
   refine List.pairwise_cons.2 ⟨fun z hz=>?_,h⟩
   rcases List.mem_cons.1 hz with rfl | hz
   ·exact hxy
   ·exact Int.le_trans hxy (h'.1 z hz)
  | false=>
   have hxy:=of_decide_eq_false hd
   refine List.pairwise_cons.2 ⟨fun z hz=>?_,Zmy x r h'.2⟩
   rcases List.mem_cons.1 ((ZlJ x r).mem_iff.1 hz) with rfl | hz
   ·omega
   ·exact h'.1 z hz
theorem Zkv:∀l:List Int,(sortI l).Perm l
 | []=>.refl _
 | x :: r=>(ZlJ x _).trans ((Zkv r).cons x)
theorem Zif:∀l:List Int,(sortI l).Pairwise (· ≤ ·)
 | []=>.nil
 | x :: r=>Zmy x _ (Zif r)
theorem Zro (l:List Int):l.mergeSort (fun x y=>decide (x≤y))=sortI l:=by
 have h1:(l.mergeSort (fun x y=>decide (x≤y))).Pairwise (· ≤ ·):=by
  have:=List.pairwise_mergeSort (le:=fun x y:Int=>decide (x≤y)) (fun a b c h1 h2=>by simp only[decide_eq_true_eq] at *;omega) (fun a b=>by simp only[Bool.or_eq_true,decide_eq_true_eq];omega) l
  exact this.imp fun h=>of_decide_eq_true h
 exact((List.mergeSort_perm l _).trans (Zkv l).symm).eq_of_pairwise (le:=(· ≤ ·)) (fun a b _ _ h1 h2=>Int.le_antisymm h1 h2) h1 (Zif l)
theorem ZAX:Zre Tryz.prog 110 where
 nil p cap w:=Any.slices_Sort_int_none Zr6 p cap w
 all zs c cs el cap w hl hc hcs:=by
  have hcl:c<w.heap.size:=(Array.getElem?_eq_some_iff.1 hc).1
  have hH:Holds (Value.int .i64) w c 0 zs.toArray:=fun j hj=>by
   have hj':j<zs.length:=by simpa using hj
   refine⟨?_,by simp[World.frozen?,hc]⟩
   simp only[World.cell?,hc,Nat.zero_add]
   have:=hcs j zs[j] (List.getElem?_eq_getElem hj')
   simp[this,hj']
  refine(Any.slices_Sort_int Zr6 c 0 cap zs w hH hcl (Nat.lt_of_le_of_lt hl (by decide))).mono ?_
  rintro e w' ⟨rfl,n,os,rfl⟩
  rw[Zro]
  have hget:∀b,(putRow (Value.int .i64) (Go.Sort.ahead w n) c 0 (sortI zs).toArray).heap[b]? = if c=b then (w.heap[b]?).map (onCells (putCells (Value.int .i64) 0 (sortI zs).toArray)) else w.heap[b]?:=fun b=>by
   show(w.heap.modify c _)[b]? = _
   rw[Array.getElem?_modify]
  have hsz:(putRow (Value.int .i64) (Go.Sort.ahead w n) c 0 (sortI zs).toArray).heap.size=w.heap.size:=by
   show(w.heap.modify c _).size=_
   simp
  refine⟨rfl,putRow (Value.int .i64) (Go.Sort.ahead w n) c 0 (sortI zs).toArray,putCells (Value.int .i64) 0 (sortI zs).toArray cs,?_,?_,?_,?_,hsz,rfl,rfl,rfl,?_,?_,rfl,rfl,rfl⟩
  ·rw[hget,if_pos rfl,hc];rfl
  ·simp[putCells]
  ·intro j x hj
   have hjl:j<(sortI zs).length:=(List.getElem?_eq_some_iff.1 hj).1
   have hx:(sortI zs)[j]=x:=(List.getElem?_eq_some_iff.1 hj).2
   have hjz:j<zs.length:=by rw[← ZlK zs];exact hjl
   have h1:=hcs j zs[j] (List.getElem?_eq_getElem hjz)
   simp only[putCells,Array.getElem?_mapIdx,h1,Option.map_some]
   simp[hjl,hx]
  ·intro c' hne
   rw[hget,if_neg (fun h=>hne h.symm)]
  ·intro b hb
   exact heap_grow_old _ _ hb
  ·show _≤((putRow (Value.int .i64) (Go.Sort.ahead w n) c 0 (sortI zs).toArray).heap++os).size
   simp
open Go Go.Proofs.YtgcfmiajkbbmeaaGreatE
theorem ok8 (G:Zk):ZF Tryz.prog G (fun N=>Zn Tryz.prog G N) 8 fn8=true:=by kernel_rfl
theorem ok9 (G:Zk):ZF Tryz.prog G (fun N=>Zn Tryz.prog G N) 9 fn9=true:=by kernel_rfl
theorem ZEP (G:Zk):ZF Tryz.prog G (fun N=>Zn Tryz.prog G N) 11 ZCV=true:=by kernel_rfl
theorem ZE1 (G:Zk):ZF Tryz.prog G (fun N=>Zn Tryz.prog G N) 12 ZzL=true:=by kernel_rfl
theorem ZEm (G:Zk):ZF Tryz.prog G (fun N=>Zn Tryz.prog G N) 14 ZAx=true:=by kernel_rfl
theorem ZEg (G:Zk):ZF Tryz.prog G (fun N=>Zn Tryz.prog G N) 17 ZDi=true:=by kernel_rfl
theorem ZEU (G:Zk):ZF Tryz.prog G (fun N=>Zn Tryz.prog G N) 18 ZC8=true:=by kernel_rfl
theorem ZDu (G:Zk):ZF Tryz.prog G (fun N=>Zn Tryz.prog G N) 19 Zzk=true:=by kernel_rfl
theorem ZE8 (G:Zk):ZF Tryz.prog G (fun N=>Zn Tryz.prog G N) 20 ZzQ=true:=by kernel_rfl
theorem ZDv (G:Zk):ZF Tryz.prog G (fun N=>Zn Tryz.prog G N) 22 ZzZ=true:=by kernel_rfl
theorem ZE6 (G:Zk):ZF Tryz.prog G (fun N=>Zn Tryz.prog G N) 25 ZCz=true:=by kernel_rfl
theorem ZDR (G:Zk):ZF Tryz.prog G (fun N=>Zn Tryz.prog G N) 28 ZzH=true:=by kernel_rfl
theorem ZDw (G:Zk):ZF Tryz.prog G (fun N=>Zn Tryz.prog G N) 30 Zzx=true:=by kernel_rfl
theorem ZDx (G:Zk):ZF Tryz.prog G (fun N=>Zn Tryz.prog G N) 31 ZzM=true:=by kernel_rfl
theorem ZDU (G:Zk):ZF Tryz.prog G (fun N=>Zn Tryz.prog G N) 32 ZzI=true:=by kernel_rfl
theorem ZE5 (G:Zk):ZF Tryz.prog G (fun N=>Zn Tryz.prog G N) 33 ZCT=true:=by kernel_rfl
theorem ZDT (G:Zk):ZF Tryz.prog G (fun N=>Zn Tryz.prog G N) 34 ZzF=true:=by kernel_rfl
theorem ZDO (G:Zk):ZF Tryz.prog G (fun N=>Zn Tryz.prog G N) 36 ZAq=true:=by kernel_rfl
theorem ZEw (G:Zk):ZF Tryz.prog G (fun N=>Zn Tryz.prog G N) 39 Zzj=true:=by kernel_rfl
theorem ZDo (G:Zk):ZF Tryz.prog G (fun N=>Zn Tryz.prog G N) 40 Zzl=true:=by kernel_rfl
theorem ZDL (G:Zk):ZF Tryz.prog G (fun N=>Zn Tryz.prog G N) 41 ZzV=true:=by kernel_rfl
theorem ZEB (G:Zk):ZF Tryz.prog G (fun N=>Zn Tryz.prog G N) 42 ZAE=true:=by kernel_rfl
theorem ZE3 (G:Zk):ZF Tryz.prog G (fun N=>Zn Tryz.prog G N) 43 Zz3=true:=by kernel_rfl
theorem ZDp (G:Zk):ZF Tryz.prog G (fun N=>Zn Tryz.prog G N) 45 ZzY=true:=by kernel_rfl
theorem ZEY (G:Zk):ZF Tryz.prog G (fun N=>Zn Tryz.prog G N) 52 ZAu=true:=by kernel_rfl
theorem ZDV (G:Zk):ZF Tryz.prog G (fun N=>Zn Tryz.prog G N) 53 ZAB=true:=by kernel_rfl
theorem ZET (G:Zk):ZF Tryz.prog G (fun N=>Zn Tryz.prog G N) 55 ZzE=true:=by kernel_rfl
theorem ZEO (G:Zk):ZF Tryz.prog G (fun N=>Zn Tryz.prog G N) 56 ZzW=true:=by kernel_rfl
theorem ZE0 (G:Zk):ZF Tryz.prog G (fun N=>Zn Tryz.prog G N) 57 ZAp=true:=by kernel_rfl
theorem ZEZ (G:Zk):ZF Tryz.prog G (fun N=>Zn Tryz.prog G N) 58 ZzD=true:=by kernel_rfl
theorem ZEE (G:Zk):ZF Tryz.prog G (fun N=>Zn Tryz.prog G N) 59 Zzt=true:=by kernel_rfl
theorem ZDZ (G:Zk):ZF Tryz.prog G (fun N=>Zn Tryz.prog G N) 60 ZAK=true:=by kernel_rfl
theorem ZEF (G:Zk):ZF Tryz.prog G (fun N=>Zn Tryz.prog G N) 61 ZBZ=true:=by kernel_rfl
theorem ZEc (G:Zk):ZF Tryz.prog G (fun N=>Zn Tryz.prog G N) 66 ZuV=true:=by kernel_rfl
theorem ZES (G:Zk):ZF Tryz.prog G (fun N=>Zn Tryz.prog G N) 67 ZzJ=true:=by kernel_rfl
theorem ZEC (G:Zk):ZF Tryz.prog G (fun N=>Zn Tryz.prog G N) 68 Zzm=true:=by kernel_rfl
theorem ZED (G:Zk):ZF Tryz.prog G (fun N=>Zn Tryz.prog G N) 69 ZAo=true:=by kernel_rfl
theorem ZDY (G:Zk):ZF Tryz.prog G (fun N=>Zn Tryz.prog G N) 70 ZAg=true:=by kernel_rfl
theorem ZE7 (G:Zk):ZF Tryz.prog G (fun N=>Zn Tryz.prog G N) 71 Zz2=true:=by kernel_rfl
theorem ZEV (G:Zk):ZF Tryz.prog G (fun N=>Zn Tryz.prog G N) 83 Zzy=true:=by kernel_rfl
theorem ZEj (G:Zk):ZF Tryz.prog G (fun N=>Zn Tryz.prog G N) 84 ZAb=true:=by kernel_rfl
theorem ZDP (G:Zk):ZF Tryz.prog G (fun N=>Zn Tryz.prog G N) 85 Zzq=true:=by kernel_rfl
theorem ZEN (G:Zk):ZF Tryz.prog G (fun N=>Zn Tryz.prog G N) 86 ZAc=true:=by kernel_rfl
theorem ZDs (G:Zk):ZF Tryz.prog G (fun N=>Zn Tryz.prog G N) 87 Zz6=true:=by kernel_rfl
theorem ZD3 (G:Zk):ZF Tryz.prog G (fun N=>Zn Tryz.prog G N) 88 Zz5=true:=by kernel_rfl
theorem ZDA (G:Zk):ZF Tryz.prog G (fun N=>Zn Tryz.prog G N) 89 Zyy=true:=by kernel_rfl
theorem ZEq (G:Zk):ZF Tryz.prog G (fun N=>Zn Tryz.prog G N) 90 ZAk=true:=by kernel_rfl
theorem ZD2 (G:Zk):ZF Tryz.prog G (fun N=>Zn Tryz.prog G N) 91 ZzR=true:=by kernel_rfl
theorem ZE2 (G:Zk):ZF Tryz.prog G (fun N=>Zn Tryz.prog G N) 92 Zx8=true:=by kernel_rfl
theorem ZEl (G:Zk):ZF Tryz.prog G (fun N=>Zn Tryz.prog G N) 93 Zz4=true:=by kernel_rfl
theorem ZDN (G:Zk):ZF Tryz.prog G (fun N=>Zn Tryz.prog G N) 94 ZAh=true:=by kernel_rfl
theorem ZDF (G:Zk):ZF Tryz.prog G (fun N=>Zn Tryz.prog G N) 95 ZCj=true:=by kernel_rfl
theorem ZDt (G:Zk):ZF Tryz.prog G (fun N=>Zn Tryz.prog G N) 96 ZBq=true:=by kernel_rfl
theorem ZEt (G:Zk):ZF Tryz.prog G (fun N=>Zn Tryz.prog G N) 97 ZCc=true:=by kernel_rfl
theorem ZEM (G:Zk):ZF Tryz.prog G (fun N=>Zn Tryz.prog G N) 98 ZCR=true:=by kernel_rfl
theorem ZEx (G:Zk):ZF Tryz.prog G (fun N=>Zn Tryz.prog G N) 99 ZsA=true:=by kernel_rfl
theorem ZA7 (G:Zk):ZF Tryz.prog G (fun N=>Zn Tryz.prog G N) 100 Zxv=true:=by kernel_rfl
theorem ZB8 (G:Zk):ZF Tryz.prog G (fun N=>Zn Tryz.prog G N) 108 Zwf=true:=by kernel_rfl
theorem ZCu (G:Zk):ZF Tryz.prog G (fun N=>Zn Tryz.prog G N) 109 ZtW=true:=by kernel_rfl
theorem ZBG (G:Zk):ZF Tryz.prog G (fun N=>Zn Tryz.prog G N) 159 ZxY=true:=by kernel_rfl
theorem ZBr (G:Zk):ZF Tryz.prog G (fun N=>Zn Tryz.prog G N) 160 Zzi=true:=by kernel_rfl
theorem ZCP (G:Zk):ZF Tryz.prog G (fun N=>Zn Tryz.prog G N) 161 ZvL=true:=by kernel_rfl
theorem ZAW (G:Zk):ZF Tryz.prog G (fun N=>Zn Tryz.prog G N) 162 ZxK=true:=by kernel_rfl
theorem ZB6 (G:Zk):ZF Tryz.prog G (fun N=>Zn Tryz.prog G N) 163 ZxM=true:=by kernel_rfl
theorem ZDa (G:Zk):ZF Tryz.prog G (fun N=>Zn Tryz.prog G N) 164 Zx0=true:=by kernel_rfl
theorem ZCq (G:Zk):ZF Tryz.prog G (fun N=>Zn Tryz.prog G N) 165 ZvZ=true:=by kernel_rfl
theorem ZCY (G:Zk):ZF Tryz.prog G (fun N=>Zn Tryz.prog G N) 166 Zv8=true:=by kernel_rfl
theorem ZC5 (G:Zk):ZF Tryz.prog G (fun N=>Zn Tryz.prog G N) 167 ZvC=true:=by kernel_rfl
theorem ZDl (G:Zk):ZF Tryz.prog G (fun N=>Zn Tryz.prog G N) 168 Zxz=true:=by kernel_rfl
theorem ZBe (G:Zk):ZF Tryz.prog G (fun N=>Zn Tryz.prog G N) 169 ZwI=true:=by kernel_rfl
theorem ZBm (G:Zk):ZF Tryz.prog G (fun N=>Zn Tryz.prog G N) 170 Zwm=true:=by kernel_rfl
theorem ZBK (G:Zk):ZF Tryz.prog G (fun N=>Zn Tryz.prog G N) 171 Zwe=true:=by kernel_rfl
theorem ZCX (G:Zk):ZF Tryz.prog G (fun N=>Zn Tryz.prog G N) 172 Zwj=true:=by kernel_rfl
theorem ZBf (G:Zk):ZF Tryz.prog G (fun N=>Zn Tryz.prog G N) 173 ZxG=true:=by kernel_rfl
theorem ZCm (G:Zk):ZF Tryz.prog G (fun N=>Zn Tryz.prog G N) 174 Zxj=true:=by kernel_rfl
theorem ZBb (G:Zk):ZF Tryz.prog G (fun N=>Zn Tryz.prog G N) 175 Zxs=true:=by kernel_rfl
theorem ZA8 (G:Zk):ZF Tryz.prog G (fun N=>Zn Tryz.prog G N) 176 ZvP=true:=by kernel_rfl
theorem ZCU (G:Zk):ZF Tryz.prog G (fun N=>Zn Tryz.prog G N) 177 Zvy=true:=by kernel_rfl
theorem ZCh (G:Zk):ZF Tryz.prog G (fun N=>Zn Tryz.prog G N) 178 Zw7=true:=by kernel_rfl
theorem ZBB (G:Zk):ZF Tryz.prog G (fun N=>Zn Tryz.prog G N) 179 ZxT=true:=by kernel_rfl
theorem ZCG (G:Zk):ZF Tryz.prog G (fun N=>Zn Tryz.prog G N) 180 ZvO=true:=by kernel_rfl
theorem ZBh (G:Zk):ZF Tryz.prog G (fun N=>Zn Tryz.prog G N) 181 Zx4=true:=by kernel_rfl
theorem ZBd (G:Zk):ZF Tryz.prog G (fun N=>Zn Tryz.prog G N) 182 Zxd=true:=by kernel_rfl
theorem ZAL (G:Zk):ZF Tryz.prog G (fun N=>Zn Tryz.prog G N) 183 ZxA=true:=by kernel_rfl
theorem ZBT (G:Zk):ZF Tryz.prog G (fun N=>Zn Tryz.prog G N) 184 Zvt=true:=by kernel_rfl
theorem ZBX (G:Zk):ZF Tryz.prog G (fun N=>Zn Tryz.prog G N) 185 Zxy=true:=by kernel_rfl
theorem ZBs (G:Zk):ZF Tryz.prog G (fun N=>Zn Tryz.prog G N) 186 Zv9=true:=by kernel_rfl
theorem ZA2 (G:Zk):ZF Tryz.prog G (fun N=>Zn Tryz.prog G N) 187 Zvu=true:=by kernel_rfl
theorem ZCe (G:Zk):ZF Tryz.prog G (fun N=>Zn Tryz.prog G N) 188 Zxp=true:=by kernel_rfl
theorem ZB7 (G:Zk):ZF Tryz.prog G (fun N=>Zn Tryz.prog G N) 189 ZwK=true:=by kernel_rfl
theorem ZBN (G:Zk):ZF Tryz.prog G (fun N=>Zn Tryz.prog G N) 190 ZwU=true:=by kernel_rfl
theorem ZBC (G:Zk):ZF Tryz.prog G (fun N=>Zn Tryz.prog G N) 191 ZxF=true:=by kernel_rfl
theorem ZAZ (G:Zk):ZF Tryz.prog G (fun N=>Zn Tryz.prog G N) 192 Zvq=true:=by kernel_rfl
theorem ZCn (G:Zk):ZF Tryz.prog G (fun N=>Zn Tryz.prog G N) 193 Zwb=true:=by kernel_rfl
theorem ZBu (G:Zk):ZF Tryz.prog G (fun N=>Zn Tryz.prog G N) 194 ZvS=true:=by kernel_rfl
theorem ZAM (G:Zk):ZF Tryz.prog G (fun N=>Zn Tryz.prog G N) 195 Zw2=true:=by kernel_rfl
theorem ZC4 (G:Zk):ZF Tryz.prog G (fun N=>Zn Tryz.prog G N) 196 Zwn=true:=by kernel_rfl
theorem ZBL (G:Zk):ZF Tryz.prog G (fun N=>Zn Tryz.prog G N) 197 Zwq=true:=by kernel_rfl
theorem ZCM (G:Zk):ZF Tryz.prog G (fun N=>Zn Tryz.prog G N) 198 ZxQ=true:=by kernel_rfl
theorem ZC9 (G:Zk):ZF Tryz.prog G (fun N=>Zn Tryz.prog G N) 199 ZwB=true:=by kernel_rfl
theorem ZAV (G:Zk):ZF Tryz.prog G (fun N=>Zn Tryz.prog G N) 200 Zxn=true:=by kernel_rfl
theorem ZAR (G:Zk):ZF Tryz.prog G (fun N=>Zn Tryz.prog G N) 201 ZwX=true:=by kernel_rfl
theorem ZBy (G:Zk):ZF Tryz.prog G (fun N=>Zn Tryz.prog G N) 202 Zwd=true:=by kernel_rfl
theorem ZBS (G:Zk):ZF Tryz.prog G (fun N=>Zn Tryz.prog G N) 203 ZxW=true:=by kernel_rfl
theorem ZBa (G:Zk):ZF Tryz.prog G (fun N=>Zn Tryz.prog G N) 204 Zy6=true:=by kernel_rfl
theorem ZCH (G:Zk):ZF Tryz.prog G (fun N=>Zn Tryz.prog G N) 205 ZxL=true:=by kernel_rfl
theorem ZC7 (G:Zk):ZF Tryz.prog G (fun N=>Zn Tryz.prog G N) 208 ZvT=true:=by kernel_rfl
theorem ZBk (G:Zk):ZF Tryz.prog G (fun N=>Zn Tryz.prog G N) 209 Zxg=true:=by kernel_rfl
theorem ZCA (G:Zk):ZF Tryz.prog G (fun N=>Zn Tryz.prog G N) 210 ZxV=true:=by kernel_rfl
theorem ZAJ (G:Zk):ZF Tryz.prog G (fun N=>Zn Tryz.prog G N) 211 ZwN=true:=by kernel_rfl
theorem ZCO (G:Zk):ZF Tryz.prog G (fun N=>Zn Tryz.prog G N) 212 Zxc=true:=by kernel_rfl
theorem ZAN (G:Zk):ZF Tryz.prog G (fun N=>Zn Tryz.prog G N) 213 Zxi=true:=by kernel_rfl
theorem ZBD (G:Zk):ZF Tryz.prog G (fun N=>Zn Tryz.prog G N) 214 ZwT=true:=by kernel_rfl
theorem ZCQ (G:Zk):ZF Tryz.prog G (fun N=>Zn Tryz.prog G N) 215 Zwz=true:=by kernel_rfl
theorem ZCd (G:Zk):ZF Tryz.prog G (fun N=>Zn Tryz.prog G N) 216 Zy8=true:=by kernel_rfl
theorem ZBA (G:Zk):ZF Tryz.prog G (fun N=>Zn Tryz.prog G N) 217 Zvz=true:=by kernel_rfl
theorem ZB9 (G:Zk):ZF Tryz.prog G (fun N=>Zn Tryz.prog G N) 218 Zw5=true:=by kernel_rfl
theorem ZBQ (G:Zk):ZF Tryz.prog G (fun N=>Zn Tryz.prog G N) 219 ZxH=true:=by kernel_rfl
theorem ZB4 (G:Zk):ZF Tryz.prog G (fun N=>Zn Tryz.prog G N) 220 ZwY=true:=by kernel_rfl
theorem ZzS (G:Zk) (hG:ZnU G):∀f fn,code f=some fn→ZF Tryz.prog G (fun N=>Zn Tryz.prog G N) f fn=true∨ZlZ Tryz.prog G f fn:=by
 intro f fn h
 unfold code at h
 split at h
 ·cases h;exact .inl (ok8 G)
 ·cases h;exact .inl (ok9 G)
 ·cases h;exact .inl (ZEP G)
 ·cases h;exact .inl (ZE1 G)
 ·cases h;exact .inl (ZEm G)
 ·cases h;exact .inl (ZEg G)
 ·cases h;exact .inl (ZEU G)
 ·cases h;exact .inl (ZDu G)
 ·cases h;exact .inl (ZE8 G)
 ·cases h;exact .inl (ZDv G)
 ·cases h;exact .inl (ZE6 G)
 ·cases h;exact .inl (ZDR G)
 ·cases h;exact .inl (ZDw G)
 ·cases h;exact .inl (ZDx G)
 ·cases h;exact .inl (ZDU G)
 ·cases h;exact .inl (ZE5 G)
 ·cases h;exact .inl (ZDT G)
 ·cases h;exact .inl (ZDO G)
 ·cases h;exact .inl (ZEw G)
 ·cases h;exact .inl (ZDo G)
 ·cases h;exact .inl (ZDL G)
 ·cases h;exact .inl (ZEB G)
 ·cases h;exact .inl (ZE3 G)
 ·cases h;exact .inl (ZDp G)
 ·cases h;exact .inl (ZEY G)
 ·cases h;exact .inl (ZDV G)
 ·cases h;exact .inl (ZET G)
 ·cases h;exact .inl (ZEO G)
 ·cases h;exact .inl (ZE0 G)
 ·cases h;exact .inl (ZEZ G)
 ·cases h;exact .inl (ZEE G)
 ·cases h;exact .inl (ZDZ G)
 ·cases h;exact .inl (ZEF G)
 ·cases h;exact .inl (ZEc G)
 ·cases h;exact .inl (ZES G)
 ·cases h;exact .inl (ZEC G)
 ·cases h;exact .inl (ZED G)
 ·cases h;exact .inl (ZDY G)
 ·cases h;exact .inl (ZE7 G)
 ·cases h;exact .inl (ZEV G)
 ·cases h;exact .inl (ZEj G)
 ·cases h;exact .inl (ZDP G)
 ·cases h;exact .inl (ZEN G)
 ·cases h;exact .inl (ZDs G)
 ·cases h;exact .inl (ZD3 G)
 ·cases h;exact .inl (ZDA G)
 ·cases h;exact .inl (ZEq G)
 ·cases h;exact .inl (ZD2 G)
 ·cases h;exact .inl (ZE2 G)
 ·cases h;exact .inl (ZEl G)
 ·cases h;exact .inl (ZDN G)
 ·cases h;exact .inl (ZDF G)
 ·cases h;exact .inl (ZDt G)
 ·cases h;exact .inl (ZEt G)
 ·cases h;exact .inl (ZEM G)
 ·cases h;exact .inl (ZEx G)
 ·cases h;exact .inl (ZA7 G)
 ·cases h;exact .inl (ZB8 G)
 ·cases h;exact .inl (ZCu G)
 ·cases h;exact .inr (.inr (.inl ⟨by kernel_rfl,rfl,ZAX⟩))
 ·cases h;exact .inl (ZBG G)
 ·cases h;exact .inl (ZBr G)
 ·cases h;exact .inl (ZCP G)
 ·cases h;exact .inl (ZAW G)
 ·cases h;exact .inl (ZB6 G)
 ·cases h;exact .inl (ZDa G)
 ·cases h;exact .inl (ZCq G)
 ·cases h;exact .inl (ZCY G)
 ·cases h;exact .inl (ZC5 G)
 ·cases h;exact .inl (ZDl G)
 ·cases h;exact .inl (ZBe G)
 ·cases h;exact .inl (ZBm G)
 ·cases h;exact .inl (ZBK G)
 ·cases h;exact .inl (ZCX G)
 ·cases h;exact .inl (ZBf G)
 ·cases h;exact .inl (ZCm G)
 ·cases h;exact .inl (ZBb G)
 ·cases h;exact .inl (ZA8 G)
 ·cases h;exact .inl (ZCU G)
 ·cases h;exact .inl (ZCh G)
 ·cases h;exact .inl (ZBB G)
 ·cases h;exact .inl (ZCG G)
 ·cases h;exact .inl (ZBh G)
 ·cases h;exact .inl (ZBd G)
 ·cases h;exact .inl (ZAL G)
 ·cases h;exact .inl (ZBT G)
 ·cases h;exact .inl (ZBX G)
 ·cases h;exact .inl (ZBs G)
 ·cases h;exact .inl (ZA2 G)
 ·cases h;exact .inl (ZCe G)
 ·cases h;exact .inl (ZB7 G)
 ·cases h;exact .inl (ZBN G)
 ·cases h;exact .inl (ZBC G)
 ·cases h;exact .inl (ZAZ G)
 ·cases h;exact .inl (ZCn G)
 ·cases h;exact .inl (ZBu G)
 ·cases h;exact .inl (ZAM G)
 ·cases h;exact .inl (ZC4 G)
 ·cases h;exact .inl (ZBL G)
 ·cases h;exact .inl (ZCM G)
 ·cases h;exact .inl (ZC9 G)
 ·cases h;exact .inl (ZAV G)
 ·cases h;exact .inl (ZAR G)
 ·cases h;exact .inl (ZBy G)
 ·cases h;exact .inl (ZBS G)
 ·cases h;exact .inl (ZBa G)
 ·cases h;exact .inl (ZCH G)
 ·cases h;exact .inr (.inr (.inr ⟨by kernel_rfl,rfl,ZyE hG⟩))
 ·cases h;exact .inl (ZC7 G)
 ·cases h;exact .inl (ZBk G)
 ·cases h;exact .inl (ZCA G)
 ·cases h;exact .inl (ZAJ G)
 ·cases h;exact .inl (ZCO G)
 ·cases h;exact .inl (ZAN G)
 ·cases h;exact .inl (ZBD G)
 ·cases h;exact .inl (ZCQ G)
 ·cases h;exact .inl (ZCd G)
 ·cases h;exact .inl (ZBA G)
 ·cases h;exact .inl (ZB9 G)
 ·cases h;exact .inl (ZBQ G)
 ·cases h;exact .inl (ZB4 G)
 ·cases h
theorem ZB3 (G:Zk) (hG:ZnU G):∀f fn,ctx.code f=some fn→ZF Tryz.prog G (fun N=>Zn Tryz.prog G N) f fn=true∨ZlZ Tryz.prog G f fn:=ZzS G hG
theorem ZCb (G:Zk) (hG:ZnU G):Zei Tryz.prog G (evW ctx):=ZvF (ZB3 G hG)
end Go.Proofs.YtgcfmiajkbbmeaaGreat
namespace Go.Proofs.YtgcfmiajkbbmeaaGreatE
open Go
open Go.IntKind (u64 i64 u32 i32 u8)
inductive Lf where
 | bool | int (k:IntKind) | str | sl (ag:Bool) (els:List Lf)
mutual
def ZyF:Lf→D→Prop
 | .bool,x=>∃b,x = .bool b
 | .int k,x=>∃n,x = .int k n∧(Lit.int k n).wf=true
 | .str,x=>∃s,x = .str s∧s.size≤maxLen
 | .sl ag els,x=>∃xs,x = .list true xs∧xs.length≤maxLen∧∀y∈xs,y.isAgg=ag∧ZdV els y.cells
def ZdV:List Lf→List D→Prop
 | [],ds=>ds=[]
 | l :: ls,ds=>∃d r,ds=d :: r∧ZyF l d∧ZdV ls r
end
def Zh6 (P:Program) (g:TypeId→Option (List Lf×Bool)):Nat→List Field→Option (List Lf)
 | _,[]=>some []
 | off,f :: fs=>match g f.type with
  | some (l,_)=>(match Zh6 P g (off+l.length) fs with
   | some r=>bif Nat.beq f.offset off&&Nat.beq (P.cellsOf f.type) l.length then some (l++r) else none
   | none=>none)
  | none=>none
def lfs (P:Program):Nat→TypeId→Option (List Lf×Bool)
 | 0,_=>none
 | n+1,t=>match P.underlying t with
  | some .bool=>some ([.bool],false)
  | some (.int k)=>some ([.int k],false)
  | some .string=>some ([.str],false)
  | some (.slice e)=>(match lfs P n e with | some (l,ag)=>bif Nat.beq (P.cellsOf e) l.length&&Nat.blt 0 l.length then some ([.sl ag l],false) else none | none=>none)
  | some (.struct fs)=>(match Zh6 P (lfs P n) 0 fs.toList with | some l=>bif Nat.beq (P.cellsOf t) l.length then some (l,true) else none | none=>none)
  | _=>none
mutual
theorem Zsc:∀(l:Lf) (x:D),ZyF l x→x.esc=true∧x.isAgg=false∧x.cells=[x]
 | .bool,x,h=>by obtain⟨b,rfl⟩:=h;exact⟨rfl,rfl,rfl⟩
 | .int k,x,h=>by obtain⟨n,rfl,_⟩:=h;exact⟨rfl,rfl,rfl⟩
 | .str,x,h=>by obtain⟨s,rfl,_⟩:=h;exact⟨rfl,rfl,rfl⟩
 | .sl ag els,x,h=>by obtain⟨xs,rfl,_⟩:=h;exact⟨rfl,rfl,rfl⟩
theorem Zqe:∀(ls:List Lf) (ds:List D),ZdV ls ds→D.escs ds=true∧ds.length=ls.length
 | [],ds,h=>by obtain rfl:=h;exact⟨rfl,rfl⟩
 | l :: ls,ds,h=>by
  obtain⟨d,r,rfl,h1,h2⟩:=h
  obtain⟨e1,e2,_⟩:=Zsc l d h1
  obtain⟨e3,e4⟩:=Zqe ls r h2
  exact⟨by simp[D.escs,e1,e2,e3],by simp[e4]⟩
end
theorem Zp0:∀(l r:List Lf) (ds es:List D),ZdV l ds→ZdV r es→ZdV (l++r) (ds++es)
 | [],r,ds,es,h,k=>by obtain rfl:=h;exact k
 | a :: l,r,ds,es,h,k=>by
  obtain⟨d,ds',rfl,h1,h2⟩:=h
  exact⟨d,ds'++es,rfl,h1,Zp0 l r ds' es h2 k⟩
section
variable {H:Type} {enc:TypeId×Value→H} {P:Program} {W:World} {sp:Nat→Bool} {held:Bool}
abbrev All:Nat→Prop:=fun _=>True
theorem Zp4:∀(ds es:List D) (us vs:List Value),ZY All All All W ds us→ZY All All All W es vs→ZY All All All W (ds++es) (us++vs)
 | [],es,us,vs,h,k=>by obtain rfl:=h;exact k
 | x :: ds,es,us,vs,h,k=>by
  obtain⟨u,us',rfl,h1,h2⟩:=h
  exact⟨u,us'++vs,rfl,h1,Zp4 ds es us' vs h2 k⟩
theorem ZrL {a:Addr}{n:Nat}{cs:List Value} (h:W.cells? 0 a n=some cs):cs.length=n∧∀k,k<n→W.cell? (a.add k)=cs[k]?:=by
 unfold World.cells? at h
 rw[if_pos (Nat.zero_le _)] at h
 exact⟨by simpa using mapM_some_length h,fun k hk=>mapM_some_get h k k (by simp[hk])⟩
theorem ZpE {g:TypeId→Option (List Lf×Bool)}{m:Nat}{cs:List Value}
  (hg:∀t l ag cs x,g t=some (l,ag)→DataW.trod enc P W 0 sp held m t cs=some x→∃ds,ZY All All All W ds cs∧ZdV l ds) :
  ∀(fs:List Field) (off:Nat) (l:List Lf) (xs:List (DataW H×List MemPlace)),Zh6 P g off fs=some l→xs.length=fs.length→off+l.length≤cs.length →
   (∀(i:Nat) f,fs[i]? = some f→DataW.trod enc P W 0 sp held m f.type ((cs.drop f.offset).take (P.cellsOf f.type))=xs[i]?)→∃ds,ZY All All All W ds ((cs.drop off).take l.length)∧ZdV l ds
 | [],off,l,xs,h,_,_,_=>by
  simp only[Zh6,Option.some.injEq] at h
  subst h
  exact⟨[],by simp[ZY],rfl⟩
 | f :: fs,off,l,xs,h,hl,hle,hx=>by
  simp only[Zh6] at h
  cases hgf:g f.type with
  | none=>rw[hgf] at h;cases h
  | some q=>
   obtain⟨l1,ag⟩:=q
   rw[hgf] at h
   dsimp only at h
   cases hr:Zh6 P g (off+l1.length) fs with
   | none=>rw[hr] at h;cases h
   | some r=>
    rw[hr] at h
    dsimp only at h
    cases hc:(Nat.beq f.offset off&&Nat.beq (P.cellsOf f.type) l1.length) with
    | false=>rw[hc] at h;cases h
    | true=>
     rw[hc] at h
     simp only[cond_true,Option.some.injEq] at h
     subst h
     simp only[Bool.and_eq_true] at hc
     have h1:=Nat.eq_of_beq_eq_true hc.1
     have h2:=Nat.eq_of_beq_eq_true hc.2
     rw[List.length_append] at hle
     cases xs with
     | nil=>simp at hl
     | cons x xs=>
      have hx0:=hx 0 f rfl
      rw[h1,h2] at hx0
      simp only[List.getElem?_cons_zero] at hx0
      obtain⟨d1,e1,e2⟩:=hg f.type l1 ag _ x hgf hx0
      obtain⟨d2,e3,e4⟩:=ZpE (cs:=cs) hg fs (off+l1.length) r xs hr (by simpa using hl) (by omega) (fun i f' hf'=>by simpa using hx (i+1) f' (by simpa using hf'))
      refine⟨d1++d2,?_,Zp0 _ _ _ _ e2 e4⟩
      have hspl:(cs.drop off).take (l1++r).length=(cs.drop off).take l1.length++(cs.drop (off+l1.length)).take r.length:=by
       rw[List.length_append,List.take_add,List.drop_drop]
      rw[hspl]
      exact Zp4 _ _ _ _ e1 e3
theorem ZoJ:∀(n:Nat) (t:TypeId) (l:List Lf) (ag:Bool),lfs P n t=some (l,ag)→∀(fuel:Nat) (cs:List Value) (x:DataW H×List MemPlace),DataW.trod enc P W 0 sp held fuel t cs=some x →
  ∃ds,ZY All All All W ds cs∧ZdV l ds∧(ag=false→∃u y,cs=[u]∧ds=[y]∧u.cells = #[u]∧y.isAgg=false)
 | 0,t,l,ag,h,fuel,cs,x,hx=>by cases h
 | n+1,t,l,ag,h,fuel,cs,x,hx=>by
  simp only[lfs] at h
  split at h
  ·rename_i ht
   cases h
   obtain⟨b,rfl,_⟩:=DataW.trod_bool ht hx
   exact⟨[.bool b],⟨_,_,rfl,rfl,rfl⟩,⟨_,_,rfl,⟨b,rfl⟩,rfl⟩,fun _=>⟨_,_,rfl,rfl,rfl,rfl⟩⟩
  ·rename_i k ht
   cases h
   obtain⟨m,rfl,_,hw⟩:=DataW.trod_int ht hx
   exact⟨[.int k m],⟨_,_,rfl,rfl,rfl⟩,⟨_,_,rfl,⟨m,rfl,hw⟩,rfl⟩,fun _=>⟨_,_,rfl,rfl,rfl,rfl⟩⟩
  ·rename_i ht
   cases h
   obtain⟨s,rfl,_,hs⟩:=DataW.trod_string ht hx
   exact⟨[.str s],⟨_,_,rfl,rfl,rfl⟩,⟨_,_,rfl,⟨s,rfl,hs⟩,rfl⟩,fun _=>⟨_,_,rfl,rfl,rfl,rfl⟩⟩
  ·rename_i e ht
   cases he:lfs P n e with
   | none=>rw[he] at h;cases h
   | some q=>
    obtain⟨le,age⟩:=q
    rw[he] at h
    dsimp only at h
    cases hc:(Nat.beq (P.cellsOf e) le.length&&Nat.blt 0 le.length) with
    | false=>rw[hc] at h;cases h
    | true=>
     rw[hc] at h
     simp only[cond_true,Option.some.injEq,Prod.mk.injEq] at h
     obtain⟨rfl,rfl⟩:=h
     simp only[Bool.and_eq_true] at hc
     have hsz:=Nat.eq_of_beq_eq_true hc.1
     have hpos:0<le.length:=by have:=hc.2;simp[Nat.blt] at this;omega
     rcases Go.Deep.open_slice ht hx with⟨rfl,_⟩ | ⟨a,len,cap,m,fu,Dd,Pl,rfl,_,hlc,hcap,hm,_,hel⟩
     ·exact⟨[.list true []],⟨_,_,rfl,⟨_,0,0,rfl,rfl,Nat.le_refl _,by simp,by simp⟩,rfl⟩,⟨_,_,rfl,⟨[],rfl,by simp,by simp⟩,rfl⟩,fun _=>⟨_,_,rfl,rfl,rfl,rfl⟩⟩
     ·rw[hsz] at hel
      have hlm:len≤m:=by rw[hm];split<;>omega
      have each:∀i,i<len→∃y u,Z2 All All All W y u∧y.isAgg=age∧ZdV le y.cells∧u.cells.size=le.length∧(∀k v,u.cells[k]? = some v→W.cell? ((a.add (i*le.length)).add k)=some v)∧y.esc=true:=fun i hi=>by
       obtain⟨cs',h1,h2⟩:=hel i (by omega)
       obtain⟨c1,c2⟩:=ZrL h1
       obtain⟨ds,d1,d2,d3⟩:=ZoJ n e le age he fu cs' _ h2
       obtain⟨s1,s2⟩:=Zqe _ _ d2
       cases age with
       | true=>
        refine⟨.agg ds,.agg cs'.toArray,⟨cs',rfl,d1⟩,rfl,d2,by simpa [Value.cells] using c1,fun k v hk=>?_,s1⟩
        have hk':cs'[k]? = some v:=by simpa [Value.cells] using hk
        rw[c2 k (by rw[← c1];exact(List.getElem?_eq_some_iff.1 hk').1)];exact hk'
       | false=>
        obtain⟨u,y,rfl,rfl,e1,e2⟩:=d3 rfl
        obtain⟨u',us',f1,f2,_⟩:=d1
        cases f1
        have hy:y.cells=[y]:=by
         cases y<;>first | rfl | (simp[D.isAgg] at e2)
        have hesc:y.esc=true:=by
         match le,d2,hpos with
         | l0 :: ls,d2,_=>
          obtain⟨d,r,g1,g2,_⟩:=d2
          cases g1
          exact(Zsc l0 y g2).1
        refine⟨y,u,f2,e2,by rw[hy];exact d2,by rw[e1,← c1];rfl,fun k v hk=>?_,hesc⟩
        rw[e1] at hk
        have hk0:k=0:=by
         have:=(Array.getElem?_eq_some_iff.1 hk).1;simp at this;exact this
        subst hk0
        simp at hk;subst hk
        rw[c2 0 (by omega)];rfl
      have all:∀j,j≤len→∃ys:List D,ys.length=j∧(∀y∈ys,y.isAgg=age∧ZdV le y.cells∧y.esc=true)∧∀(i:Nat) y,ys[i]? = some y→∃u,Z2 All All All W y u∧u.cells.size=le.length∧∀k v,u.cells[k]? = some v→W.cell? ((a.add (i*le.length)).add k)=some v:=by
       intro j
       induction j with
       | zero=>intro _;exact⟨[],rfl,by simp,by simp⟩
       | succ j ih=>
        intro hj
        obtain⟨ys,y1,y2,y3⟩:=ih (by omega)
        obtain⟨y,u,z1,z2,z3,z4,z5,z6⟩:=each j (by omega)
        refine⟨ys++[y],by simp[y1],fun z hz=>?_,fun i z hz=>?_⟩
        ·rcases List.mem_append.1 hz with hz | hz
         ·exact y2 z hz
         ·simp at hz;subst hz;exact⟨z2,z3,z6⟩
        ·by_cases hi:i<ys.length
         ·rw[List.getElem?_append_left hi] at hz;exact y3 i z hz
         ·rw[List.getElem?_append_right (by omega)] at hz
          have hij:i-ys.length=0:=by
           have:=(List.getElem?_eq_some_iff.1 hz).1;simp at this;omega
          rw[hij] at hz
          simp at hz;subst hz
          have:i=j:=by omega
          subst this
          exact⟨u,z1,z4,z5⟩
      obtain⟨ys,y1,y2,y3⟩:=all len (Nat.le_refl _)
      refine⟨[.list true ys],⟨_,_,rfl,⟨_,len,cap,rfl,y1.symm,hlc,fun z hz=>(y2 z hz).2.2,fun hne=>?_⟩,rfl⟩,⟨_,_,rfl,⟨ys,rfl,by omega,fun z hz=>⟨(y2 z hz).1,(y2 z hz).2.1⟩⟩,rfl⟩,fun _=>⟨_,_,rfl,rfl,rfl,rfl⟩⟩
      have hlen:0<len:=by
       rw[← y1];exact List.length_pos_iff.2 hne
      obtain⟨cs0,h1,_⟩:=hel 0 (by omega)
      obtain⟨c1,c2⟩:=ZrL h1
      have c3:=c2 0 hpos
      have hcell:∃v,W.cell? a=some v:=by
       refine⟨cs0[0]'(by omega),?_⟩
       have e0:(a.add (0*le.length)).add 0=a:=by simp[Addr.add]
       rw[e0] at c3
       rw[c3];exact List.getElem?_eq_getElem (by omega)
      obtain⟨v,hv⟩:=hcell
      have hspot:a.spot=none∧a.block<W.heap.size:=by
       unfold World.cell? at hv
       split at hv
       ·rename_i hb
        cases hsx:a.spot with
        | none=>exact⟨rfl,(Array.getElem?_eq_some_iff.1 hb).1⟩
        | some z=>rw[hsx] at hv;simp at hv
       ·cases hv
      obtain⟨b,off,spot⟩:=a
      obtain⟨hs1,hs2⟩:=hspot
      simp only at hs1 hs2
      subst hs1
      refine⟨b,off,le.length,rfl,trivial,hs2,ZhF ys off fun j y hj=>?_⟩
      obtain⟨u,u1,u2,u3⟩:=y3 j y hj
      refine⟨u,u1,u2,fun k v hk=>?_⟩
      rw[← u3 k v hk]
      congr 1
      unfold Addr.add
      by_cases hj0:j*le.length=0
      ·by_cases hk0:k=0<;>simp[hj0,hk0]
      ·by_cases hk0:k=0<;>simp[hj0,hk0]
  ·rename_i fs ht
   cases hf:Zh6 P (lfs P n) 0 fs.toList with
   | none=>rw[hf] at h;cases h
   | some l'=>
    rw[hf] at h
    dsimp only at h
    cases hc:Nat.beq (P.cellsOf t) l'.length with
    | false=>rw[hc] at h;cases h
    | true=>
     rw[hc] at h
     simp only[cond_true,Option.some.injEq,Prod.mk.injEq] at h
     obtain⟨rfl,rfl⟩:=h
     have hcl:=Nat.eq_of_beq_eq_true hc
     obtain⟨xs,m,_,_,hlen,hxl,hxs⟩:=DataW.trod_struct ht hx
     have hlen':cs.length=l'.length:=hlen.trans hcl
     obtain⟨ds,e1,e2⟩:=ZpE (m:=m) (cs:=cs) (g:=lfs P n) (fun t l ag cs x hg hx=>by
      obtain⟨ds,d1,d2,_⟩:=ZoJ n t l ag hg m cs x hx
      exact⟨ds,d1,d2⟩) fs.toList 0 l' xs hf (by simpa using hxl) (by omega) (fun i f hf'=>hxs i f (by simpa using hf'))
     refine⟨ds,?_,e2,fun h=>by cases h⟩
     have:(cs.drop 0).take l'.length=cs:=by rw[List.drop_zero,List.take_of_length_le (by omega)]
     rw[this] at e1;exact e1
  ·cases h
def Zic (ag:Bool) (ds:List D):D:=match ag,ds with | true,ds=>.agg ds | false,d :: _=>d | false,[]=>.nilp
theorem Zn2 {n:Nat}{t:TypeId}{l:List Lf}{ag:Bool} (h:lfs P n t=some (l,ag)) {base:Nat}{v:Value}{d:DataW H}{ps:List MemPlace} (hv:Value.okWide P W .any base t v) (hx:DataW.Trod enc P W 0 sp held t v d ps) :
  ∃ds,ZdV l ds∧Z2 All All All W (Zic ag ds) v:=by
 obtain⟨fuel,hf⟩:=hx
 obtain⟨ds,d1,d2,d3⟩:=ZoJ n t l ag h fuel _ _ hf
 refine⟨ds,d2,?_⟩
 have one:ag=false→v.cells = #[v]→Z2 All All All W (Zic ag ds) v:=fun hag hc=>by
  subst hag
  obtain⟨u,y,e1,rfl,_,_⟩:=d3 rfl
  rw[hc] at e1
  cases e1
  obtain⟨u',us',f1,f2,_⟩:=d1
  rw[hc] at f1
  cases f1
  exact f2
 cases n with
 | zero=>cases h
 | succ n=>
  simp only[lfs] at h
  split at h
  ·rename_i ht
   cases h
   obtain⟨b,rfl⟩:=Go.WideShapes.okWide_bool ht hv
   exact one rfl rfl
  ·rename_i k ht
   cases h
   obtain⟨b,rfl⟩:=Go.WideShapes.okWide_int ht hv
   exact one rfl rfl
  ·rename_i ht
   cases h
   obtain⟨b,rfl⟩:=Go.WideShapes.okWide_string ht hv
   exact one rfl rfl
  ·rename_i e ht
   obtain⟨a,len,cap,rfl⟩:=Go.WideShapes.okWide_slice ht hv
   split at h
   ·rename_i le age hq
    cases hc:(Nat.beq (P.cellsOf e) le.length&&Nat.blt 0 le.length) with
    | false=>rw[hc] at h;cases h
    | true=>rw[hc] at h;cases h;exact one rfl rfl
   ·cases h
  ·rename_i fs ht
   obtain⟨cs,rfl,_⟩:=Go.WideShapes.okWide_struct ht hv
   split at h
   ·rename_i q hq
    cases hc:Nat.beq (P.cellsOf t) q.length with
    | false=>rw[hc] at h;cases h
    | true=>
     rw[hc] at h
     cases h
     exact⟨cs.toList,by simp,by simpa [Value.cells] using d1⟩
   ·cases h
  ·cases h
end
end Go.Proofs.YtgcfmiajkbbmeaaGreatE
namespace Go.Proofs.YtgcfmiajkbbmeaaGreatE
open Go
open Go.IntKind (u64 i64 u32 i32 u8)
def R0:RP:={ B1:=fun _=>False,B0:=fun _=>False,M:=fun _=>none,H:=[] }
section
variable {P:Program} {G:Zk} {Γ:Ctx} {W:World}
theorem Zir (c:Nat):¬R0.live c:=by
 rintro ⟨i,h,_⟩
 simp[R0,ZH,nth] at h
theorem ZAP:R0.OK W where
 b01:=fun c h=>h.elim
 al:=fun i blk h=>by simp[R0] at h
 inj:=fun i j c h=>by simp[R0,ZH,nth] at h
 lt:=fun i c h=>by cases h
 blk:=fun i m blk h=>by simp[R0] at h
 nb:=fun i c h=>by simp[R0,ZH,nth] at h
 bl:=fun c h=>h.elim
theorem ZzO {x:D}{u:Value} (h:Z2 All All All W x u):R0.den W x u:=
 Z2.change _ _ _ _ (fun b _ _=>⟨Zir b,fun h=>h⟩) (fun b _ _=>⟨Zir b,fun h=>h⟩) (fun b _ _=>Zir b) (fun _ _ _=>rfl) (Nat.le_refl _) (fun _ _=>trivial) (fun _ _=>trivial) x u h
theorem Zyt {xs:List D}{us:List Value} (h:ZY All All All W xs us):ZR R0 W (ZaR xs) us:=
 (Zbh xs us).2 (ZY.change _ _ _ _ (fun b _ _=>⟨Zir b,fun h=>h⟩) (fun b _ _=>⟨Zir b,fun h=>h⟩) (fun b _ _=>Zir b) (fun _ _ _=>rfl) (Nat.le_refl _) (fun _ _=>trivial) (fun _ _=>trivial) xs us h)
theorem Zvd (hs:Zei P G (evW Γ)) (hg:GOK G R0 W) {f:Nat}{xs:List D}{us:List Value} (hd:ZY All All All W xs us) {H':Zd} (he:evW Γ f (ZaR xs) []=some (.d (.bool true),H')) :
  Calls P f us.toArray W fun e W'=>e = .returned (.bool true)∧Go.RowKit.Below W.heap.size W W':=by
 obtain⟨_,h⟩:=hs f (ZaR xs) [] _ _ he
 refine(h R0 W us ZAP hg rfl (fun i _=>rfl) (Zyt hd)).mono fun e W' ⟨u,h1,R',x,ok,hH,hv,_,_⟩=>?_
 have hu:u = .bool true:=hv
 subst hu
 exact⟨h1,⟨x.os,x.tape,x.output,x.grow,fun k hk=>x.same k hk (Zir k)⟩⟩
end
end Go.Proofs.YtgcfmiajkbbmeaaGreatE
namespace Go.Proofs.YtgcfmiajkbbmeaaGreatE
open Go
open Go.IntKind (u64 i64 u32 i32 u8)
noncomputable def bnd {α β:Type} (x:Option α) (k:α→Option β):Option β:=@dite _ (∃a,x=some a) (Classical.propDecidable _) (fun h=>k (Classical.choose h)) fun _=>none
theorem Zc5 {α β:Type} (x:Option α) (k:α→Option β):bnd x k=(match x with | some a=>k a | none=>none):=by
  unfold bnd
  cases x with
  | none=>exact dif_neg (fun⟨a,h⟩=>by cases h)
  | some a=>
    have h:∃b,some a=some b:=⟨a,rfl⟩
    rw[dif_pos h]
    have:=Classical.choose_spec h
    rw[← Option.some.inj this]
theorem ZiG {α β:Type} (a:α) (k:α→Option β):bnd (some a) k=k a:=Zc5 _ _
section
variable {β:Type}
def ZDB:List Nat:=[0,1,2,3,4,5,6,7,8,9,10,11,12,13,14,15,16,17,18,19,20,21,22,23,24,25,26,27,28,29,30,31,32,33,34,35,36,37,38,39,40,41,42,43,44,45,46,47,48,49,50,51,52,53,54,55,56,57,58,59,60,61,62,63]
def fgo (n:Nat) (k:Nat→Option β):List Nat→Option β
  | []=>k n
  | a :: l=>match Nat.beq n a with | true=>k a | false=>fgo n k l
def ZbM (n:Nat) (k:Nat→Option β):Option β:=fgo n k ZDB
def Zg1 (v:V) (k:V→Option β):Option β:=
  match v with
  | .d x=>k (.d x) | .bad=>k .bad | .ptr b o=>ZbM b fun b=>ZbM o fun o=>k (.ptr b o) | .eptr b sz i j=>ZbM b fun b=>ZbM j fun j=>k (.eptr b sz i j)
  | .sl b sz=>ZbM b fun b=>k (.sl b sz) | .slp b sz o l=>ZbM b fun b=>k (.slp b sz o l) | .nilsl sz=>k (.nilsl sz)
  | .agg cs=>k (.agg cs) | .tup cs=>k (.tup cs) | .fn f cs=>k (.fn f cs) | .mp b=>ZbM b fun b=>k (.mp b)
def ZhN (l:List V) (k:List V→Option β):Option β:=
  match l with
  | []=>k []
  | v :: vs=>Zg1 v fun v=>ZhN vs fun vs=>k (v :: vs)
def Zqq (v:V) (k:V→Option β):Option β:=
  match v with
  | .d x=>k (.d x) | .bad=>k .bad | .ptr b o=>Zg1 (.ptr b o) k | .eptr b sz i j=>Zg1 (.eptr b sz i j) k
  | .sl b sz=>Zg1 (.sl b sz) k | .slp b sz o l=>Zg1 (.slp b sz o l) k | .nilsl sz=>k (.nilsl sz)
  | .agg cs=>ZhN cs fun cs=>k (.agg cs) | .tup cs=>ZhN cs fun cs=>k (.tup cs) | .fn f cs=>ZhN cs fun cs=>k (.fn f cs) | .mp b=>Zg1 (.mp b) k
def ZgJ (l:List V) (k:List V→Option β):Option β:=
  match l with
  | []=>k []
  | v :: vs=>Zqq v fun v=>ZgJ vs fun vs=>k (v :: vs)
def ZsE (b:Blk) (k:Blk→Option β):Option β:=
  match b with
  | .dead=>k .dead | .cells cs=>ZgJ cs fun cs=>k (.cells cs) | .arr sz xs=>k (.arr sz xs) | .mp es=>k (.mp es)
def ZiQ (H:Zd) (k:Zd→Option β):Option β:=
  match H with
  | []=>k []
  | b :: bs=>ZsE b fun b=>ZiQ bs fun bs=>k (b :: bs)
theorem Zxh (n:Nat) (k:Nat→Option β):∀(l:List Nat),fgo n k l=k n
  | []=>rfl
  | a :: l=>by
    unfold fgo
    cases h:Nat.beq n a with
    | true=>rw[Nat.eq_of_beq_eq_true h]
    | false=>exact Zxh n k l
theorem Zb8 (n:Nat) (k:Nat→Option β):ZbM n k=k n:=Zxh n k _
theorem ZnK (v:V) (k:V→Option β):Zg1 v k=k v:=by cases v<;>simp[Zg1,Zb8]
theorem ZmL:∀(l:List V) (k:List V→Option β),ZhN l k=k l
  | [],k=>rfl
  | v :: vs,k=>by unfold ZhN;rw[ZnK,ZmL vs]
theorem Zqp (v:V) (k:V→Option β):Zqq v k=k v:=by cases v<;>simp[Zqq,ZnK,ZmL]
theorem Zgn:∀(l:List V) (k:List V→Option β),ZgJ l k=k l
  | [],k=>rfl
  | v :: vs,k=>by unfold ZgJ;rw[Zqp,Zgn vs]
theorem Zva (b:Blk) (k:Blk→Option β):ZsE b k=k b:=by cases b<;>simp[ZsE,Zgn]
theorem ZhJ:∀(l:Zd) (k:Zd→Option β),ZiQ l k=k l
  | [],k=>rfl
  | v :: vs,k=>by unfold ZiQ;rw[Zva,ZhJ vs]
def Zh4 (l:List Nat) (k:List Nat→Option β):Option β:=
  match l with
  | []=>k []
  | a :: l=>ZbM a fun a=>Zh4 l fun l=>k (a :: l)
theorem Zh1:∀(l:List Nat) (k:List Nat→Option β),Zh4 l k=k l
  | [],k=>rfl
  | a :: l,k=>by unfold Zh4;rw[Zb8,Zh1 l]
def Zjz (H:Zd) (l:List Nat) (bs:List Nat) (k:List Nat→Option β):Option β:=
  match bs with
  | []=>k l
  | b :: bs=>(match ZfQ l b || !(ZH H b) with
    | true=>Zjz H l bs k
    | false=>Zh4 (l++[b]) fun l=>Zjz H l bs k)
theorem Zh3 (H:Zd):∀(bs l:List Nat) (k:List Nat→Option β),Zjz H l bs k=k (Zej H l bs)
  | [],l,k=>rfl
  | b :: bs,l,k=>by
    unfold Zjz Zej
    cases h:(ZfQ l b || !(ZH H b)) with
    | true=>exact Zh3 H bs l k
    | false=>simp only[Zh1,cond_false];exact Zh3 H bs _ k
def ZqN (H:Zd) (n i:Nat) (l:List Nat) (k:List Nat→Option β):Option β:=
  match n with
  | 0=>k l
  | n+1=>(match nth l i with
    | some b=>Zh4 (Zt8 H b) fun bs=>Zjz H l bs fun l=>ZbM (i+1) fun i=>ZqN H n i l k
    | none=>k l)
theorem ZpP (H:Zd):∀(n i:Nat) (l:List Nat) (k:List Nat→Option β),ZqN H n i l k=k (Zje H n i l)
  | 0,i,l,k=>rfl
  | n+1,i,l,k=>by
    unfold ZqN Zje
    cases h:nth l i with
    | none=>rfl
    | some b=>simp only[Zh1,Zb8,Zh3];exact ZpP H n (i+1) _ k
def Zda (m:Nat) (vs:List V) (H:Zd) (k:List Nat→List V→Zd→Option β):Option β:=
  ZgJ vs fun vs=>Zh4 (ZkO m) fun u=>Zh4 (Zge vs) fun r=>Zjz H u r fun l=>ZqN H (H.length+1) 0 l fun L=>
    (match ZkH L&&Zo2 H.length L with
    | true=>ZgJ (Zgj (fun b=>idx L b 0) vs) fun vs=>ZiQ (pick H (fun b=>idx L b 0) L) fun H=>k L vs H
    | false=>none)
theorem Zby (m:Nat) (vs:List V) (H:Zd) (k:List Nat→List V→Zd→Option β):Zda m vs H k=(match extract m vs H with | some (L,vs,H)=>k L vs H | none=>none):=by
  unfold Zda extract Zk4
  simp only[Zgn,Zh1,Zh3,ZpP,ZhJ]
  cases (ZkH (Zje H (H.length+1) 0 (Zej H (ZkO m) (Zge vs)))&&Zo2 H.length (Zje H (H.length+1) 0 (Zej H (ZkO m) (Zge vs))))<;>rfl
def Zka (n:Nat) (vs:List V) (k:List V→List Blk→Option β):Option β:=
  match vs with
  | []=>k [] []
  | v :: vs=>(match v with
    | .nilsl sz=>(match Nat.blt 0 sz with
      | true=>ZbM (n+1) fun n1=>Zka n1 vs fun vs bs=>k (.sl n sz :: vs) (.arr sz [] :: bs)
      | false=>Zka n vs fun vs bs=>k (.nilsl sz :: vs) bs)
    | v=>Zka n vs fun vs bs=>k (v :: vs) bs)
theorem Zhj:∀(vs:List V) (n:Nat) (k:List V→List Blk→Option β),Zka n vs k=k (Zar n vs).1 (Zar n vs).2
  | [],n,k=>rfl
  | v :: vs,n,k=>by
    unfold Zka
    split
    · rename_i sz
      simp only[Zar]
      cases h:Nat.blt 0 sz with
      | true=>simp only[Zb8,cond_true];exact Zhj vs (n+1) _
      | false=>exact Zhj vs n _
    · rename_i h
      rw[Zhj vs n]
      cases v<;>first | rfl | exact absurd rfl (h _)
def Zlu (n:Nat) (H:Zd) (k:Zd→List Blk→Option β):Option β:=
  match H with
  | []=>k [] []
  | b :: H=>(match b with
    | .cells cs=>Zka n cs fun cs bs=>ZbM (n+bs.length) fun n1=>Zlu n1 H fun H q=>k (.cells cs :: H) (bs++q)
    | b=>Zlu n H fun H q=>k (b :: H) q)
theorem Zkk:∀(H:Zd) (n:Nat) (k:Zd→List Blk→Option β),Zlu n H k=k (ZaQ n H).1 (ZaQ n H).2
  | [],n,k=>rfl
  | b :: H,n,k=>by
    unfold Zlu
    cases b<;>first | exact Zkk H n _ | skip
    rename_i cs
    simp only[Zhj,Zb8,ZaQ]
    exact Zkk H _ _
def ZmB (m:Nat) (vs:List V) (H:Zd) (k:List V→Zd→Option β):Option β:=
  Zda m vs H fun _ vs1 H1=>Zka H1.length vs1 fun vs2 bs=>ZbM (H1.length+bs.length) fun n=>Zlu n H1 fun H2 q=>ZiQ (H2++(bs++q)) fun H2=>Zda m vs2 H2 fun _ vs3 H3=>k vs3 H3
theorem ZrX (m:Nat) (vs:List V) (H:Zd) (k:List V→Zd→Option β):ZmB m vs H k=(match ZmX m vs H with | some (vs,H)=>k vs H | none=>none):=by
  unfold ZmB ZmX
  rw[Zby]
  cases h:extract m vs H with
  | none=>rfl
  | some p=>
    obtain⟨L,vs1,H1⟩:=p
    simp only[Zhj,Zb8,Zkk,ZhJ,Zby]
    cases extract m (Zar H1.length vs1).1 ((ZaQ (H1.length+(Zar H1.length vs1).2.length) H1).1++((Zar H1.length vs1).2++(ZaQ (H1.length+(Zar H1.length vs1).2.length) H1).2))<;>rfl
noncomputable def br (c:Bool) (x y:Option β):Option β:=@ite _ (c=true) (Classical.propDecidable _) x y
theorem ZbQ (c:Bool) (x y:Option β):br c x y=bif c then x else y:=by
  unfold br
  cases c with
  | true=>exact if_pos rfl
  | false=>exact if_neg (by simp)
def brL (c:Bool) (x y:Option β):Option β:=match c with | true=>x | false=>y
noncomputable def Zi8 (c:Bool) (k:V→Option β):Option β:=br c (k (.d (.bool true))) (k (.d (.bool false)))
theorem Zhr (c:Bool) (k:V→Option β):Zi8 c k=k (.d (.bool c)):=by
  unfold Zi8
  rw[ZbQ]
  cases c<;>rfl
noncomputable def ZpQ (v:V) (k:V→Option β):Option β:=match v with | .d (.bool c)=>Zi8 c k | v=>k v
theorem Zr9 (v:V) (k:V→Option β):ZpQ v k=k v:=by
  unfold ZpQ
  split
  · exact Zhr _ _
  · rfl
noncomputable def Zuo (x:D) (k:V→Option β):Option β:=match x with | .bool c=>Zi8 c k | .tup ts=>k (.tup (ZaR ts)) | x=>k (.d x)
abbrev K3 (β:Type):=V→List (Nat×Blk)→List Blk→Option β
noncomputable def ZyC (op:BinOp) (x y:V) (k:V→Option β):Option β:=
  match op,x,y with
  | .quo,.d (.int i a),.d (.int j b)=>(match i==j with | true=>br (b==0) none (k (.d (.int i (i.wrap (a.tdiv b))))) | false=>none)
  | .rem,.d (.int i a),.d (.int j b)=>(match i==j with | true=>br (b==0) none (k (.d (.int i (a.tmod b)))) | false=>none)
  | .shl,.d (.int i a),.d (.int _ b)=>br (decide (b<0)) none (k (.d (.int i (i.wrap (a*2 ^ (min b.toNat i.bits))))))
  | .shr,.d (.int i a),.d (.int _ b)=>br (decide (b<0)) none (k (.d (.int i (a.fdiv (2 ^ (min b.toNat i.bits))))))
  | op,x,y=>match ZkA op x y with | some (.bool c)=>Zi8 c k | some r=>k (.d r) | none=>none
noncomputable def ZtM (H:Zd) (n:Nat) (ag:Bool) (x:V) (k:V→Option β):Option β:=
  match x with
  | .eptr b sz i j=>(match nth H b with
    | some (.arr sz' xs)=>(match Nat.beq sz sz' with
      | true=>bnd (nth xs i) fun x=>(match Zc2 n ag (ZaR (x.cells.drop j)) with | some v=>ZpQ v k | none=>none)
      | false=>none)
    | _=>none)
  | x=>match ZbO H n ag x with | some v=>ZpQ v k | none=>none
noncomputable def Zq7 (H:Zd) (n:Nat) (x v:V) (k:K3 β):Option β:=
  match x with
  | .eptr b sz i j=>(match nth H b with
    | some (.arr sz' xs)=>(match Nat.beq sz sz' with
      | true=>bnd (nth xs i) fun x=>(match fr H 6 v with
        | some (y,ks)=>(match ZfQ ks b with
          | true=>none
          | false=>(match Nat.beq y.cells.length n&&Nat.ble (j+n) x.cells.length&&(V.d y).okb&&(x.isAgg || !y.isAgg) with
            | true=>bnd (some (Zck xs i (bif x.isAgg then .agg (ZN x.cells j y.cells) else y))) fun zs=>k .bad ((b,.arr sz zs) :: ks.map (fun j=>(j,.dead))) []
            | false=>none))
        | none=>none)
      | false=>none)
    | _=>none)
  | x=>match Zik H n x v with | some (a,b,c)=>k a b c | none=>none
noncomputable def Zqx (nid:Nat) (H:Zd) (sz:Nat) (x y:V) (k:K3 β):Option β:=
  match elems H y with
  | none=>none
  | some ys=>
    br (Zha sz ys 0) (match x with
    | .nilsl _=>br (Nat.ble ys.length lim) (bnd (some ys) fun zs=>k (.sl nid sz) [] [.arr sz zs]) none
    | .sl b sz'=>(match nth H b with
      | some (.arr sz'' xs)=>(match Nat.beq sz sz'&&Nat.beq sz sz'' with
        | true=>br (Nat.ble (xs.length+ys.length) lim) (bnd (some (xs++ys)) fun zs=>k (.sl nid sz) [(b,.dead)] [.arr sz zs]) none
        | false=>none)
      | _=>none)
    | .slp b sz' o len=>(match nth H b with
      | some (.arr sz'' xs)=>(match Nat.beq sz sz'&&Nat.beq sz sz'' with
        | true=>br (Nat.ble (o+len+ys.length) xs.length) (bnd (some (xs.take (o+len)++(ys++xs.drop (o+len+ys.length)))) fun zs=>bnd (some (len+ys.length)) fun n=>k (.slp b sz o n) [(b,.arr sz zs)] []) none
        | false=>none)
      | _=>none)
    | _=>none) none
noncomputable def Zk5 (H:Zd) (sz:Nat) (x y:V) (k:V→Option β):Option β:=
  match x with
  | .nilsl _=>(match elems H y with
    | some ys=>br (Zha sz ys 0) (br (Nat.ble ys.length lim) (bnd (some ys) fun zs=>k (.d (.list true zs))) none) none
    | none=>none)
  | _=>none
noncomputable def Zok (v:Option V) (dflt:Nat) (k:Nat→Option β):Option β:=
  match v with
  | none=>k dflt
  | some (.d (.int _ n))=>br (decide (0≤n)) (k n.toNat) none
  | _=>none
noncomputable def ZqF (H:Zd) (sz:Nat) (x:V) (lo hi mx:Option V) (k:V→Option β):Option β:=
  match elems H x with
  | none=>none
  | some xs=>
    Zok lo 0 fun l=>Zok hi xs.length fun h=>
      br (Nat.ble l h&&Nat.ble h xs.length)
        (match mx with
        | none=>(match x with
          | .d (.list own _)=>br (Nat.beq l 0 || Zha sz xs l) (bnd (some ((xs.drop l).take (h-l))) fun zs=>k (.d (.list own zs))) none
          | .sl b sz'=>(match Nat.beq sz sz' with | true=>bnd (some l) fun l'=>bnd (some (h-l)) fun n=>k (.slp b sz l' n) | false=>none)
          | .slp b sz' o _=>(match Nat.beq sz sz' with | true=>bnd (some (o+l)) fun l'=>bnd (some (h-l)) fun n=>k (.slp b sz l' n) | false=>none)
          | .nilsl _=>k (.nilsl sz)
          | _=>none)
        | some m=>Zok (some m) 0 fun m=>br (Nat.beq m l&&Nat.beq m h) (k (.nilsl sz)) none)
        none
noncomputable def ZqI (H:Zd) (sz:Nat) (x i:V) (k:V→Option β):Option β:=
  match i with
  | .d (.int _ i)=>(match x with
    | .d (.list _ xs)=>bnd (ZK xs i) fun x=>(match Nat.beq x.cells.length sz&&(V.d x).okb with | true=>k (.d (.rptr x.cells)) | false=>none)
    | .sl b sz'=>(match nth H b with
      | some (.arr sz'' xs)=>(match Nat.beq sz sz'&&Nat.beq sz sz'' with | true=>bnd (ZK xs i) fun _=>k (.eptr b sz i.toNat 0) | false=>none)
      | _=>none)
    | .slp b sz' o len=>(match nth H b with
      | some (.arr sz'' xs)=>(match Nat.beq sz sz'&&Nat.beq sz sz'' with | true=>bnd (ZK ((xs.drop o).take len) i) fun _=>k (.eptr b sz (o+i.toNat) 0) | false=>none)
      | _=>none)
    | _=>none)
  | _=>none
noncomputable def Zqv (len sz:Nat) (ag:Bool) (x i:V) (k:V→Option β):Option β:=
  match i with
  | .d (.int _ i)=>br (x.isAggV&&(decide (0≤i)&&decide (i<len))) (bnd (Zc2 sz ag (x.cells.drop (i.toNat*sz))) k) none
  | _=>none
noncomputable def Zne (H:Zd) (len sz:Nat) (x i:V) (k:V→Option β):Option β:=
  match i with
  | .d (.int _ i)=>br (decide (0≤i)&&decide (i<len)) (match Zih H (i.toNat*sz) x with | some v=>k v | none=>none) none
  | _=>none
noncomputable def Zno (x i:V) (k:V→Option β):Option β:=
  match x,i with
  | .d (.str s),.d (.int _ i)=>br (decide (0≤i)) (bnd s[i.toNat]? fun b=>k (.d (.int .u8 b.toNat))) none
  | _,_=>none
noncomputable def Zmw (k:V→Option β) (r:V×Zd):Option β:=match fr r.2 6 r.1 with | some (x,_)=>Zuo x k | none=>none
noncomputable def Zmz (Γ:Ctx) (cf:Z4) (nid:Nat) (H:Zd) (f:Nat) (args:List V) (k:K3 β):Option β:=
  match Γ.mode f with
  | 0=>(match fzs H args with
    | some l=>ZgJ (ZaR l) fun l=>bnd (cf f l []) (Zmw fun v=>k v [] [])
    | none=>none)
  | 1=>(match fzs H args with
    | some l=>ZgJ (ZaR l) fun l=>bnd (cf f l []) fun r=>(match Zo6 r.1&&Zj2 r.2 with | true=>k (Zk2 (fun j=>some (nid+j)) r.1) [] (r.2.map (ZfU (fun j=>some (nid+j)))) | false=>none)
    | none=>none)
  | _ => (Zda 0 args H fun L args' H0 => bnd (cf f args' H0) fun r => (match ZjY r.1 && Zhg r.2 with
        | true=>k (Zk2 (fun j=>match nth L j with | some b=>some b | none=>some (nid+(j-L.length))) r.1)
          (L.zip (r.2.map (ZfU (fun j=>match nth L j with | some b=>some b | none=>some (nid+(j-L.length))))))
          ((r.2.drop L.length).map (ZfU (fun j=>match nth L j with | some b=>some b | none=>some (nid+(j-L.length)))))
        | false=>none))
noncomputable def Zrg (H:Zd) (ks:List Bool) (m k v:V) (kk:K3 β):Option β:=
  match m,k,v with
  | .mp b,.d k,.d y=>(match nth H b with
    | some (.mp es)=>(match ZaK ks k&&ZfP y with | true=>bnd (ZhW es k y) fun l=>kk .bad [(b,.mp l)] [] | false=>none)
    | _=>none)
  | _,_,_=>none
noncomputable def Zq9 (H:Zd) (ks:List Bool) (z:D) (m k:V) (kk:K3 β):Option β:=
  match m,k with
  | .mp b,.d k=>(match nth H b with
    | some (.mp es)=>(match ZaK ks k with | true=>bnd (ZyN es k z) fun y=>kk (.d y) [] [] | false=>none)
    | _=>none)
  | _,_=>none
noncomputable def ZvU (H:Zd) (x:V) (k:K3 β):Option β:=bnd (Zp2 H x) fun q=>br (Nat.ble q.2.length lim) (k .bad [(q.1,.arr 1 ((sortI q.2).map fun n=>.int .i64 n))] []) none
noncomputable def opK (Γ:Ctx) (cf:Z4) (e:Env) (nid:Nat) (H:Zd) (o:O) (k:K3 β):Option β:=
  match o with
  | .mov x=>k (x.val e) [] []
  | .pick c a b=>(match c.val e with | .d (.bool t)=>brL t (k (a.val e) [] []) (k (b.val e) [] []) | _=>none)
  | .load n ag x=>ZtM H n ag (x.val e) fun v=>k v [] []
  | .store n x v=>Zq7 H n (x.val e) (v.val e) k
  | .storek n x v _=>Zq7 H n (x.val e) (v.val e) k
  | .bin op x y=>ZyC op (x.val e) (y.val e) fun v=>k v [] []
  | .slice sz x lo hi mx=>ZqF H sz (x.val e) (lo.map (·.val e)) (hi.map (·.val e)) (mx.map (·.val e)) fun v=>k v [] []
  | .iaddr sz x i=>ZqI H sz (x.val e) (i.val e) fun v=>k v [] []
  | .index len sz ag x i=>Zqv len sz ag (x.val e) (i.val e) fun v=>k v [] []
  | .iaddrA len sz x i=>Zne H len sz (x.val e) (i.val e) fun v=>k v [] []
  | .indexS x i=>Zno (x.val e) (i.val e) fun v=>k v [] []
  | .append sz x y=>Zqx nid H sz (x.val e) (y.val e) k
  | .appendD sz x y=>Zk5 H sz (x.val e) (y.val e) fun v=>k v [] []
  | .eqv ks neg x y=>(match x.val e,y.val e with
    | .d a,.d b=>(match ZaK ks a with | true=>(match eqD a b with | some r=>Zi8 (bif neg then !r else r) fun v=>k v [] [] | none=>none) | false=>none)
    | _,_=>none)
  | .un .not x=>(match x.val e with | .d (.bool b)=>brL b (k (.d (.bool false)) [] []) (k (.d (.bool true)) [] []) | _=>none)
  | .extract x i=>(match x.val e with
    | .tup vs=>(match nth vs i with | some (.d (.bool c))=>Zi8 c fun v=>k v [] [] | some v=>k v [] [] | none=>none)
    | .d (.tup vs)=>(match nth vs i with | some (.bool c)=>Zi8 c fun v=>k v [] [] | some v=>k (.d v) [] [] | none=>none)
    | _=>none)
  | .mkslice sz z n c=>(match n.val e,c.val e with
    | .d (.int _ n),.d (.int _ c)=>br (decide (0≤n)&&decide (n≤lim)&&decide (n==c))
        (bnd (some (List.replicate n.toNat (match z with | [x]=>x | z=>.agg z))) fun zs=>k (.sl nid sz) [] [.arr sz zs]) none
    | _,_=>none)
  | .len x=>(match elems H (x.val e) with | some xs=>bnd (some (xs.length:Int)) fun n=>k (.d (.int .i64 n)) [] [] | none=>none)
  | .call f args=>Zmz Γ cf nid H f (Zc9 e args) k
  | .callv x args=>(match Ziu (x.val e) with | some (f,caps)=>(match ZeL Γ (x.val e) f caps with | true=>none | false=>Zmz Γ cf nid H (Zj0 f) (ZmD f caps (Zc9 e args)) k) | none=>none)
  | .invoke tab x args=>(match x.val e with
    | .d (.iface t y)=>(match Zja tab t with | some f=>Zmz Γ cf nid H f (.d y :: Zc9 e args) k | none=>none)
    | _=>none)
  | .callk f args _=>Zmz Γ cf nid H f (Zc9 e args) k
  | .spec id args=>(match H,ZiH (Zc9 e args) with | [],some l=>bnd (Zj3 id l) fun r=>k (.d r) [] [] | _,_=>none)
  | .nilq x=>(match elems H (x.val e) with | some xs=>br (Nat.blt 0 xs.length) (k (.d (.bool false)) [] []) none | none=>none)
  | .sortI x=>ZvU H (x.val e) k
  | .mapset ks m x v=>Zrg H ks (m.val e) (x.val e) (v.val e) k
  | .mapget ks z m x=>Zq9 H ks z (m.val e) (x.val e) k
  | o=>match opE Γ cf e nid H o with | some (v,up,nw)=>ZpQ v fun v=>k v up nw | none=>none
def on3 (x:Res) (k:K3 β):Option β:=match x with | some (v,up,nw)=>k v up nw | none=>none
theorem Zll (Γ:Ctx) (cf:Z4) (nid:Nat) (H:Zd) (f:Nat) (args:List V) (k:K3 β):Zmz Γ cf nid H f args k=on3 (ZeK Γ cf nid H f args) k:=by
  unfold Zmz ZeK
  generalize Γ.mode f=m
  match m with
  | 0=>
    dsimp only
    simp only[Zc5]
    cases h1:fzs H args with
    | none=>rfl
    | some l=>
      simp only[Zgn]
      cases h2:cf f (ZaR l) [] with
      | none=>rfl
      | some r=>
        obtain⟨v,H1⟩:=r
        dsimp only[Zmw]
        cases h3:fr H1 6 v with
        | none=>rfl
        | some q => obtain ⟨x, ks⟩ := q; cases x <;> try rfl
                    exact Zhr _ (fun v=>k v [] [])
  | 1=>
    dsimp only
    simp only[Zc5]
    cases h1:fzs H args with
    | none=>rfl
    | some l=>
      simp only[Zgn]
      cases h2:cf f (ZaR l) [] with
      | none=>rfl
      | some r=>
        dsimp only
        cases h3:(Zo6 r.1&&Zj2 r.2)<;>rfl
  | m+2=>
    dsimp only
    simp only[Zc5]
    rw[Zby]
    cases h1:extract 0 args H with
    | none=>rfl
    | some q=>
      obtain⟨L,args',H0⟩:=q
      dsimp only
      cases h2:cf f args' H0 with
      | none=>rfl
      | some r=>
        dsimp only
        cases h3:(ZjY r.1&&Zhg r.2)<;>rfl
theorem Zyq (op:BinOp) (x y:V) (k:V→Option β):ZyC op x y k=(match ZkA op x y with | some r=>k (.d r) | none=>none):=by
  unfold ZyC
  split
  · rename_i i a j b
    simp only[ZkA,ZyL]
    cases h:(i==j)<;>simp only[cond_true,cond_false,ZbQ]
    cases h2:(b==0)<;>rfl
  · rename_i i a j b
    simp only[ZkA,ZyL]
    cases h:(i==j)<;>simp only[cond_true,cond_false,ZbQ]
    cases h2:(b==0)<;>rfl
  · rename_i i a j b
    simp only[ZkA,shI,ZbQ]
    cases h:decide (b<0)<;>rfl
  · rename_i i a j b
    simp only[ZkA,shI,ZbQ]
    cases h:decide (b<0)<;>rfl
  · cases h:ZkA op x y with
    | none=>rfl
    | some r => cases r <;> try rfl
                exact Zhr _ _
theorem Zwt (H:Zd) (n:Nat) (ag:Bool) (x:V) (k:V→Option β):ZtM H n ag x k=(match ZbO H n ag x with | some v=>k v | none=>none):=by
  unfold ZtM
  simp only[Zc5]
  simp only[Zr9]
  split
  · rename_i b sz i j
    simp only[ZbO]
    cases h:nth H b with
    | none=>rfl
    | some blk=>
      cases blk<;>try rfl
      rename_i sz' xs
      dsimp only
      cases h2:Nat.beq sz sz'<;>simp only[cond_true,cond_false]
      cases h3:nth xs i<;>rfl
  · rfl
theorem ZpO (H:Zd) (n:Nat) (x v:V) (k:K3 β):Zq7 H n x v k=on3 (Zik H n x v) k:=by
  unfold Zq7
  simp only[Zc5]
  split
  · rename_i b sz i j
    simp only[Zik]
    cases h:nth H b with
    | none=>rfl
    | some blk=>
      cases blk<;>try rfl
      rename_i sz' xs
      dsimp only
      cases h2:Nat.beq sz sz'<;>simp only[cond_true,cond_false]<;>try rfl
      cases h3:nth xs i with
      | none=>rfl
      | some x=>
        cases h4:fr H 6 v with
        | none=>rfl
        | some q=>
          obtain⟨y,ks⟩:=q
          dsimp only
          cases h5:ZfQ ks b<;>simp only[cond_true,cond_false]<;>try rfl
          cases h6:(Nat.beq y.cells.length n&&Nat.ble (j+n) x.cells.length&&(V.d y).okb&&(x.isAgg || !y.isAgg))<;>rfl
  · rfl
theorem Zsv (nid:Nat) (H:Zd) (sz:Nat) (x y:V) (k:K3 β):Zqx nid H sz x y k=on3 (Zfd nid H sz x y) k:=by
  unfold Zqx Zfd
  cases h:elems H y with
  | none=>rfl
  | some ys=>
    simp only[ZbQ,ZiG]
    cases h0:Zha sz ys 0<;>simp only[cond_true,cond_false]<;>try rfl
    cases x<;>try rfl
    · rename_i b sz'
      dsimp only
      cases h1:nth H b with
      | none=>rfl
      | some blk=>
        cases blk<;>try rfl
        rename_i sz'' xs
        dsimp only
        cases h2:(Nat.beq sz sz'&&Nat.beq sz sz'')<;>simp only[cond_true,cond_false]<;>try rfl
        cases h3:Nat.ble (xs.length+ys.length) lim<;>rfl
    · rename_i b sz' o len
      dsimp only
      cases h1:nth H b with
      | none=>rfl
      | some blk=>
        cases blk<;>try rfl
        rename_i sz'' xs
        dsimp only
        cases h2:(Nat.beq sz sz'&&Nat.beq sz sz'')
        · simp only[Bool.false_and,cond_false];rfl
        · simp only[Bool.true_and,ZbQ]
          cases h3:Nat.ble (o+len+ys.length) xs.length<;>rfl
    · dsimp only
      cases h3:Nat.ble ys.length lim<;>rfl
theorem Zsq (H:Zd) (sz:Nat) (x y:V) (k:V→Option β):Zk5 H sz x y k=(match Zgy H sz x y with | some v=>k v | none=>none):=by
  unfold Zk5 Zgy
  cases x<;>try rfl
  dsimp only
  cases h:elems H y with
  | none=>rfl
  | some ys=>
    simp only[ZbQ,ZiG]
    cases h0:Zha sz ys 0<;>cases h1:Nat.ble ys.length lim<;>rfl
theorem Zvi (v:Option V) (d:Nat) (k:Nat→Option β):Zok v d k=(match ZfK v d with | some n=>k n | none=>none):=by
  unfold Zok ZfK
  cases v with
  | none=>rfl
  | some v=>
    cases v<;>try rfl
    rename_i x
    cases x<;>try rfl
    rename_i i n
    dsimp only
    rw[ZbQ]
    cases h:decide (0≤n)<;>rfl
theorem ZuY (H:Zd) (sz:Nat) (x:V) (lo hi mx:Option V) (k:V→Option β):ZqF H sz x lo hi mx k=(match Zgx H sz x lo hi mx with | some v=>k v | none=>none):=by
  unfold ZqF Zgx
  cases h:elems H x with
  | none=>rfl
  | some xs=>
    simp only[Zvi]
    cases h1:ZfK lo 0 with
    | none=>rfl
    | some l=>
      cases h2:ZfK hi xs.length with
      | none=>rfl
      | some hh=>
        simp only[ZbQ,ZiG]
        cases h3:(Nat.ble l hh&&Nat.ble hh xs.length)<;>simp only[cond_true,cond_false]
        cases mx with
        | none=>
          cases x<;>try rfl
          · rename_i x
            cases x<;>try rfl
            dsimp only
            cases h4:(Nat.beq l 0 || Zha sz xs l)<;>rfl
          · rename_i b sz'
            dsimp only
            cases h4:Nat.beq sz sz'<;>rfl
          · rename_i b sz' o len
            dsimp only
            cases h4:Nat.beq sz sz'<;>rfl
        | some m=>
          dsimp only
          cases h4:ZfK (some m) 0 with
          | none=>rfl
          | some m=>
            dsimp only
            cases h5:(Nat.beq m l&&Nat.beq m hh)<;>rfl
theorem Zvm (H:Zd) (sz:Nat) (x i:V) (k:V→Option β):ZqI H sz x i k=(match Zgd H sz x i with | some v=>k v | none=>none):=by
  unfold ZqI Zgd
  simp only[Zc5]
  cases i<;>try rfl
  rename_i i
  cases i<;>try rfl
  rename_i ki i
  cases x<;>try rfl
  · rename_i x
    cases x<;>try rfl
    rename_i own xs
    dsimp only
    cases h:ZK xs i with
    | none=>rfl
    | some x=>
      dsimp only
      cases h2:(Nat.beq x.cells.length sz&&(V.d x).okb)<;>rfl
  · rename_i b sz'
    dsimp only
    cases h1:nth H b with
    | none=>rfl
    | some blk=>
      cases blk<;>try rfl
      rename_i sz'' xs
      dsimp only
      cases h2:(Nat.beq sz sz'&&Nat.beq sz sz'')<;>simp only[cond_true,cond_false]
      cases h:ZK xs i<;>rfl
  · rename_i b sz' o len
    dsimp only
    cases h1:nth H b with
    | none=>rfl
    | some blk=>
      cases blk<;>try rfl
      rename_i sz'' xs
      dsimp only
      cases h2:(Nat.beq sz sz'&&Nat.beq sz sz'')<;>simp only[cond_true,cond_false]
      cases h:ZK ((xs.drop o).take len) i<;>rfl
theorem ZuO (len sz:Nat) (ag:Bool) (x i:V) (k:V→Option β):Zqv len sz ag x i k=(match ZkG len sz ag x i with | some v=>k v | none=>none):=by
  unfold Zqv ZkG
  cases i<;>try rfl
  rename_i i
  cases i<;>try rfl
  rename_i ki i
  dsimp only
  rw[ZbQ,Zc5]
  cases (x.isAggV&&(decide (0≤i)&&decide (i<(len:Int)))) with
  | false=>rfl
  | true=>simp only[cond_true];cases Zc2 sz ag (List.drop (i.toNat*sz) x.cells)<;>rfl
theorem ZsI (H:Zd) (len sz:Nat) (x i:V) (k:V→Option β):Zne H len sz x i k=(match Zev H len sz x i with | some v=>k v | none=>none):=by
  unfold Zne Zev
  cases i<;>try rfl
  rename_i i
  cases i<;>try rfl
  rename_i ki i
  dsimp only
  rw[ZbQ]
  cases (decide (0≤i)&&decide (i<(len:Int)))<;>rfl
theorem Zsz (x i:V) (k:V→Option β):Zno x i k=(match Zil x i with | some v=>k v | none=>none):=by
  unfold Zno Zil
  cases x<;>try rfl
  rename_i x
  cases x<;>try rfl
  rename_i s
  cases i<;>try rfl
  rename_i i
  cases i<;>try rfl
  rename_i ki i
  dsimp only
  rw[ZbQ,Zc5]
  cases decide (0≤i) with
  | false=>rfl
  | true=>simp only[cond_true];cases s[i.toNat]?<;>rfl
theorem ZtU (x:Res) (k:K3 β):(match x with | some (v,up,nw)=>ZpQ v fun v=>k v up nw | none=>none)=on3 x k:=by
  cases x with
  | none=>rfl
  | some q=>exact Zr9 _ _
theorem Zvs (H:Zd) (x:V) (k:K3 β):ZvU H x k=on3 (Zsu H x) k:=by
  unfold ZvU Zsu
  cases Zp2 H x with
  | none=>rw[Zc5];rfl
  | some q=>
    obtain⟨b,zs⟩:=q
    rw[ZiG,ZbQ]
    dsimp only
    cases Nat.ble zs.length lim<;>rfl
theorem Zs9 (H:Zd) (ks:List Bool) (m x v:V) (k:K3 β):Zrg H ks m x v k=on3 (ZkM H ks m x v) k:=by
  unfold Zrg ZkM
  cases m<;>try rfl
  cases x<;>try rfl
  cases v<;>try rfl
  rename_i b x y
  dsimp only
  cases hb:nth H b with
  | none=>rfl
  | some blk=>
    cases blk<;>try rfl
    rename_i es
    dsimp only
    cases hk:(ZaK ks x&&ZfP y) with
    | false=>rfl
    | true=>
      dsimp only
      rw[Zc5]
      cases hs:ZhW es x y<;>rfl
theorem Ztp (H:Zd) (ks:List Bool) (z:D) (m x:V) (k:K3 β):Zq9 H ks z m x k=on3 (match ZjF H ks z m x with | some r=>ZaH (.d r) | none=>none) k:=by
  unfold Zq9 ZjF
  cases m<;>try rfl
  cases x<;>try rfl
  rename_i b x
  dsimp only
  cases hb:nth H b with
  | none=>rfl
  | some blk=>
    cases blk<;>try rfl
    rename_i es
    dsimp only
    cases hk:ZaK ks x with
    | false=>rfl
    | true=>
      dsimp only
      rw[Zc5]
      cases hs:ZyN es x z<;>rfl
theorem ZqJ (Γ:Ctx) (cf:Z4) (e:Env) (nid:Nat) (H:Zd) (o:O) (k:K3 β):opK Γ cf e nid H o k=on3 (opE Γ cf e nid H o) k:=by
  cases o<;>try (first | rfl | exact ZtU _ _)
  · rename_i c a b
    show(match c.val e with | .d (.bool t)=>brL t (k (a.val e) [] []) (k (b.val e) [] []) | _=>none)=on3 (match c.val e with | .d (.bool t)=>ZaH (bif t then a.val e else b.val e) | _=>none) k
    cases c.val e<;>try rfl
    rename_i x
    cases x<;>try rfl
    rename_i t
    cases t<;>rfl
  · rename_i n ag x
    show ZtM H n ag (x.val e) (fun v=>k v [] [])=on3 (match ZbO H n ag (x.val e) with | some v=>ZaH v | none=>none) k
    rw[Zwt]
    cases h:ZbO H n ag (x.val e)<;>rfl
  · exact ZpO _ _ _ _ _
  · rename_i op x y
    show ZyC op (x.val e) (y.val e) (fun v=>k v [] [])=on3 (match ZkA op (x.val e) (y.val e) with | some r=>ZaH (.d r) | none=>none) k
    rw[Zyq]
    cases h:ZkA op (x.val e) (y.val e)<;>rfl
  · rename_i ks neg x y
    show(match x.val e,y.val e with
      | .d a,.d b=>(match ZaK ks a with | true=>(match eqD a b with | some r=>Zi8 (bif neg then !r else r) (fun v=>k v [] []) | none=>none) | false=>none)
      | _,_=>none)=on3 (match x.val e,y.val e with
      | .d a,.d b=>(match ZaK ks a with | true=>(match eqD a b with | some r=>ZaH (.d (.bool (bif neg then !r else r))) | none=>none) | false=>none)
      | _,_=>none) k
    cases x.val e<;>try rfl
    rename_i a
    cases y.val e<;>try rfl
    rename_i b
    dsimp only
    cases hn:ZaK ks a<;>try rfl
    dsimp only
    cases h:eqD a b with
    | none=>rfl
    | some r=>exact Zhr _ _
  · rename_i op x
    cases op<;>try (first | rfl | exact ZtU _ _)
    show(match x.val e with | .d (.bool b)=>brL b (k (.d (.bool false)) [] []) (k (.d (.bool true)) [] []) | _=>none)=on3 (match unE .not (x.val e) with | some r=>ZaH (.d r) | none=>none) k
    cases x.val e<;>try rfl
    rename_i a
    cases a<;>try rfl
    rename_i b
    cases b<;>rfl
  · rename_i f caps
    cases caps<;>rfl
  · rename_i sz z n c
    show(match n.val e,c.val e with
      | .d (.int _ n),.d (.int _ c)=>br (decide (0≤n)&&decide (n≤lim)&&decide (n==c)) (bnd (some (List.replicate n.toNat (match z with | [x]=>x | z=>.agg z))) fun zs=>k (.sl nid sz) [] [.arr sz zs]) none
      | _,_=>none)=on3 (match n.val e,c.val e with
      | .d (.int _ n),.d (.int _ c)=>bif decide (0≤n)&&decide (n≤lim)&&decide (n==c) then some (.sl nid sz,[],[.arr sz (List.replicate n.toNat (match z with | [x]=>x | z=>.agg z))]) else none
      | _,_=>none) k
    cases n.val e<;>try rfl
    rename_i x
    cases x<;>try rfl
    rename_i i n1
    cases c.val e<;>try rfl
    rename_i x
    cases x<;>try rfl
    rename_i j c1
    dsimp only
    simp only[ZbQ,ZiG]
    cases h3:(decide (0≤n1)&&decide (n1≤lim)&&decide (n1==c1))<;>rfl
  · rename_i sz x lo hi mx
    show ZqF H sz (x.val e) (lo.map (·.val e)) (hi.map (·.val e)) (mx.map (·.val e)) (fun v=>k v [] [])=on3 (match Zgx H sz (x.val e) (lo.map (·.val e)) (hi.map (·.val e)) (mx.map (·.val e)) with | some v=>ZaH v | none=>none) k
    rw[ZuY]
    cases h:Zgx H sz (x.val e) (lo.map (·.val e)) (hi.map (·.val e)) (mx.map (·.val e))<;>rfl
  · rename_i sz x i
    show ZqI H sz (x.val e) (i.val e) (fun v=>k v [] [])=on3 (match Zgd H sz (x.val e) (i.val e) with | some v=>ZaH v | none=>none) k
    rw[Zvm]
    cases h:Zgd H sz (x.val e) (i.val e)<;>rfl
  · rename_i len sz ag x i
    show Zqv len sz ag (x.val e) (i.val e) (fun v=>k v [] [])=on3 (match ZkG len sz ag (x.val e) (i.val e) with | some v=>ZaH v | none=>none) k
    rw[ZuO]
    cases h:ZkG len sz ag (x.val e) (i.val e)<;>rfl
  · rename_i x i
    show Zno (x.val e) (i.val e) (fun v=>k v [] [])=on3 (match Zil (x.val e) (i.val e) with | some v=>ZaH v | none=>none) k
    rw[Zsz]
    cases h:Zil (x.val e) (i.val e)<;>rfl
  · rename_i len sz x i
    show Zne H len sz (x.val e) (i.val e) (fun v=>k v [] [])=on3 (match Zev H len sz (x.val e) (i.val e) with | some v=>ZaH v | none=>none) k
    rw[ZsI]
    cases h:Zev H len sz (x.val e) (i.val e)<;>rfl
  · rename_i x
    show(match elems H (x.val e) with | some xs=>bnd (some (xs.length:Int)) fun n=>k (.d (.int .i64 n)) [] [] | none=>none)=on3 (match ZqM H (x.val e) with | some r=>ZaH (.d r) | none=>none) k
    unfold ZqM
    cases elems H (x.val e) with
    | none=>rfl
    | some xs=>exact ZiG _ _
  · exact Zsv _ _ _ _ _ _
  · rename_i sz x y
    show Zk5 H sz (x.val e) (y.val e) (fun v=>k v [] [])=on3 (match Zgy H sz (x.val e) (y.val e) with | some v=>ZaH v | none=>none) k
    rw[Zsq]
    cases h:Zgy H sz (x.val e) (y.val e)<;>rfl
  · rename_i x i
    show(match x.val e with
      | .tup vs=>(match nth vs i with | some (.d (.bool c))=>Zi8 c (fun v=>k v [] []) | some v=>k v [] [] | none=>none)
      | .d (.tup vs)=>(match nth vs i with | some (.bool c)=>Zi8 c (fun v=>k v [] []) | some v=>k (.d v) [] [] | none=>none)
      | _=>none)=on3 (match x.val e with
      | .tup vs=>(match nth vs i with | some v=>ZaH v | none=>none)
      | .d (.tup vs)=>(match nth vs i with | some v=>ZaH (.d v) | none=>none)
      | _=>none) k
    cases x.val e<;>try rfl
    · rename_i y
      cases y<;>try rfl
      rename_i vs
      dsimp only
      cases nth vs i with
      | none=>rfl
      | some v => cases v <;> try rfl
                  exact Zhr _ _
    · rename_i vs
      dsimp only
      cases nth vs i with
      | none=>rfl
      | some v => cases v <;> try rfl
                  rename_i y
                  cases y<;>try rfl
                  exact Zhr _ _
  · exact Zll _ _ _ _ _ _ _
  · rename_i x args
    show(match Ziu (x.val e) with | some (f,caps)=>(match ZeL Γ (x.val e) f caps with | true=>none | false=>Zmz Γ cf nid H (Zj0 f) (ZmD f caps (Zc9 e args)) k) | none=>none)=_
    rw[Ze1]
    cases h:Ziu (x.val e) with
    | none=>rfl
    | some q=>
      obtain⟨f,caps⟩:=q
      dsimp only
      cases hb:ZeL Γ (x.val e) f caps
      · exact Zll _ _ _ _ _ _ _
      · rfl
  · rename_i tab x args
    show(match x.val e with
      | .d (.iface t y)=>(match Zja tab t with | some f=>Zmz Γ cf nid H f (.d y :: Zc9 e args) k | none=>none)
      | _=>none)=_
    rw[Zel]
    cases h:x.val e<;>try rfl
    rename_i y
    cases y<;>try rfl
    rename_i t y
    dsimp only
    cases h2:Zja tab t with
    | none=>rfl
    | some f=>exact Zll _ _ _ _ _ _ _
  · exact Zs9 _ _ _ _ _ _
  · exact Ztp _ _ _ _ _ _
  · exact Zll _ _ _ _ _ _ _
  · rename_i x
    show(match elems H (x.val e) with | some xs=>br (Nat.blt 0 xs.length) (k (.d (.bool false)) [] []) none | none=>none)=on3 (match elems H (x.val e) with | some xs=>(match Nat.blt 0 xs.length with | true=>ZaH (.d (.bool false)) | false=>none) | none=>none) k
    cases elems H (x.val e) with
    | none=>rfl
    | some xs=>
      dsimp only
      rw[ZbQ]
      cases Nat.blt 0 xs.length<;>rfl
  · rename_i id args
    show(match H,ZiH (Zc9 e args) with | [],some l=>bnd (Zj3 id l) fun r=>k (.d r) [] [] | _,_=>none)=on3 (match H,ZiH (Zc9 e args) with | [],some l=>(match Zj3 id l with | some r=>ZaH (.d r) | none=>none) | _,_=>none) k
    cases H<;>cases ZiH (Zc9 e args)<;>try rfl
    rename_i l
    dsimp only
    rw[Zc5]
    cases Zj3 id l<;>rfl
  · exact ZpO _ _ _ _ _
  · exact Zvs _ _ _
def Zmt (e:Env) (g:Option (Nat×Bool)) (x y:Option β):Option β:=
  match g with
  | none=>x
  | some (s,b)=>match e s with | .d (.bool t)=>brL (t==b) x y | .d (.tup [])=>y | _=>none
theorem ZpU (e:Env) (g:Option (Nat×Bool)) (x y:Option β):Zmt e g x y=(match Zcb e g with | some true=>x | some false=>y | none=>none):=by
  unfold Zmt Zcb
  cases g with
  | none=>rfl
  | some p=>
    obtain⟨s,b⟩:=p
    dsimp only
    split<;>rename_i h
    · simp only[h,brL];rename_i t;cases h2:t==b<;>rfl
    · simp only[h]
    · split<;>simp_all
end
section
variable {β:Type}
def Zqc (e:Env) (dst:Option Nat) (H:Zd) (v:V) (up:List (Nat×Blk)) (nw:List Blk) (k:Env→Zd→Option β):Option β:=
  Zqq v fun v=>match dst with
    | some i=>(match up,nw with
      | [],[]=>k (e.set i v) H
      | up,nw=>ZiQ (Za1 H up++nw) fun H=>k (e.set i v) H)
    | none=>(match up,nw with
      | [],[]=>k e H
      | up,nw=>ZiQ (Za1 H up++nw) fun H=>k e H)
theorem Zrv (e:Env) (dst:Option Nat) (H:Zd) (v:V) (up:List (Nat×Blk)) (nw:List Blk) (k:Env→Zd→Option β):Zqc e dst H v up nw k=k (Zkt e dst v) (Za1 H up++nw):=by
  unfold Zqc
  rw[Zqp]
  cases dst<;>dsimp only[Zkt]
  all_goals
    split
    · simp[Za1]
    · rw[ZhJ]
def ZrI (e:Env) (dst:Option Nat) (k:Env→Option β):Option β:=match dst with | some i=>k (e.set i (.d (.tup []))) | none=>k e
theorem Zss (e:Env) (dst:Option Nat) (k:Env→Option β):ZrI e dst k=k (Zkt e dst (.d (.tup []))):=by cases dst<;>rfl
def Zs1:O→Bool
  | .mov _=>true
  | .pick _ _ _=>true
  | .build _ _=>true
  | .bin _ _ _=>true
  | .eqv _ _ _ _=>true
  | .un _ _=>true
  | .conv _ _=>true
  | .mkfn _ _=>true
  | .field _ _ _ _=>true
  | .index _ _ _ _ _=>true
  | .indexS _ _=>true
  | .mx _ _=>true
  | .extract _ _=>true
  | .bslice _ _ 0 _=>true
  | .alloc _=>true
  | .box _=>true
  | _=>false
theorem Zvh {Γ:Ctx}{cf:Z4}{e:Env}{nid:Nat}{H H':Zd}{op:O} (h:Zs1 op=true):opE Γ cf e nid H op=opE Γ cf e nid H' op:=by
  cases op<;>first | rfl | (cases h;done) | skip
  rename_i sz z len ps
  cases len with
  | zero=>rfl
  | succ n=>cases h
noncomputable def Zuy (Γ:Ctx) (cf:Z4) (l:List Op1) (e:Env) (H:Zd) (k:Env→Zd→Option β):Option β:=
  List.rec (motive:=fun _=>Env→Zd→(Env→Zd→Option β)→Option β) (fun e H k=>k e H)
    (fun o _ ih e H k=>Zmt e o.guard (ZbM H.length fun nid=>opK Γ cf e nid H o.op fun v up nw=>Zqc e o.dst H v up nw fun e H=>ih e H k) (ZrI e o.dst fun e=>ih e H k)) l e H k
theorem ZuF (Γ:Ctx) (cf:Z4) (o:Op1) (r:List Op1) (e:Env) (H:Zd) (k:Env→Zd→Option β) :
    Zuy Γ cf (o :: r) e H k=Zmt e o.guard (ZbM H.length fun nid=>opK Γ cf e nid H o.op fun v up nw=>Zqc e o.dst H v up nw fun e H=>Zuy Γ cf r e H k) (ZrI e o.dst fun e=>Zuy Γ cf r e H k):=rfl
theorem Zq3 (Γ:Ctx) (cf:Z4):∀(l:List Op1) (e:Env) (H:Zd) (k:Env→Zd→Option β),Zuy Γ cf l e H k=(match Zd4 Γ cf l e H with | some (e,H)=>k e H | none=>none)
  | [],e,H,k=>rfl
  | o :: l,e,H,k=>by
    rw[ZuF]
    unfold Zd4
    rw[ZpU,Zb8,ZqJ,Zss]
    cases hw:Zcb e o.guard with
    | none=>rfl
    | some b=>
      cases b with
      | false=>exact Zq3 Γ cf l _ _ k
      | true=>
        dsimp only
        cases ho:opE Γ cf e H.length H o.op with
        | none=>rfl
        | some q=>obtain⟨v,up,nw⟩:=q;simp only[on3,Zrv];exact Zq3 Γ cf l _ _ k
def Zkp (l:List (Nat×Nat)) (k:List (Nat×Nat)→Option β):Option β:=
  match l with
  | []=>k []
  | p :: l=>ZbM p.1 fun a=>ZbM p.2 fun b=>Zkp l fun l=>k ((a,b) :: l)
theorem Zmu:∀(l:List (Nat×Nat)) (k:List (Nat×Nat)→Option β),Zkp l k=k l
  | [],k=>rfl
  | p :: l,k=>by unfold Zkp;rw[Zb8,Zb8,Zmu l]
def Zyu (o:O) (mask:List Nat) (H:Zd) (pos:List (Nat×Nat)) (k:Zd→Option β):Option β:=
  match Zs1 o with
  | true=>k H
  | false=>(match mask with | []=>k H | mask=>ZiQ (ZeI H pos mask) k)
noncomputable def ZpF (Γ:Ctx) (cf:Z4) (pos:List (Nat×Nat)) (l:List Op1) (e:Env) (H:Zd) (k:Env→Zd→Option β):Option β:=
  List.rec (motive:=fun _=>List (Nat×Nat)→Env→Zd→(Env→Zd→Option β)→Option β) (fun _ e H k=>k e H)
    (fun o _ ih pos e H k=>Zmt e o.guard (ZbM H.length fun nid=>Zyu o.op o.mask H pos fun Hm=>opK Γ cf e nid Hm o.op fun v up nw=>
      (match ZnE e H o up nw with | true=>ZbM nw.length fun m=>Zkp (pos++[(nid,m)]) fun pos=>Zqc e o.dst H v up nw fun e' H'=>ih pos e' H' k | false=>none)) (ZrI e o.dst fun e'=>ZbM H.length fun nid=>Zkp (pos++[(nid,0)]) fun pos=>ih pos e' H k)) l pos e H k
theorem ZsW (Γ:Ctx) (cf:Z4) (pos:List (Nat×Nat)) (o:Op1) (r:List Op1) (e:Env) (H:Zd) (k:Env→Zd→Option β) :
    ZpF Γ cf pos (o :: r) e H k=Zmt e o.guard (ZbM H.length fun nid=>Zyu o.op o.mask H pos fun Hm=>opK Γ cf e nid Hm o.op fun v up nw=>
      (match ZnE e H o up nw with | true=>ZbM nw.length fun m=>Zkp (pos++[(nid,m)]) fun pos=>Zqc e o.dst H v up nw fun e' H'=>ZpF Γ cf pos r e' H' k | false=>none)) (ZrI e o.dst fun e'=>ZbM H.length fun nid=>Zkp (pos++[(nid,0)]) fun pos=>ZpF Γ cf pos r e' H k):=rfl
theorem Zw1 (Γ:Ctx) (cf:Z4) (e:Env) (nid:Nat) (o:O) (mask:List Nat) (H:Zd) (pos:List (Nat×Nat)) (k:K3 β):(Zyu o mask H pos fun Hm=>opK Γ cf e nid Hm o k)=opK Γ cf e nid (ZeI H pos mask) o k:=by
  unfold Zyu
  cases h:Zs1 o with
  | true=>dsimp only;rw[ZqJ,ZqJ,Zvh h (H:=H) (H':=ZeI H pos mask)]
  | false=>
    dsimp only
    cases mask with
    | nil=>rfl
    | cons a l=>dsimp only;rw[ZhJ]
theorem ZoV (Γ:Ctx) (cf:Z4):∀(l:List Op1) (pos:List (Nat×Nat)) (e:Env) (H:Zd) (k:Env→Zd→Option β),ZpF Γ cf pos l e H k=(match ZdC Γ cf pos l e H with | some (e,H)=>k e H | none=>none)
  | [],pos,e,H,k=>rfl
  | o :: l,pos,e,H,k=>by
    rw[ZsW]
    unfold ZdC
    rw[ZpU,Zb8,Zw1,ZqJ,Zss,Zb8,Zmu]
    cases hw:Zcb e o.guard with
    | none=>rfl
    | some b=>
      cases b with
      | false=>exact ZoV Γ cf l _ _ _ k
      | true=>
        dsimp only
        cases ho:opE Γ cf e H.length (ZeI H pos o.mask) o.op with
        | none=>rfl
        | some q=>
          obtain⟨v,up,nw⟩:=q
          simp only[on3]
          cases hb:(ZnE e H o up nw)<;>simp only[cond_true,cond_false,Zrv,Zb8,Zmu]
          exact ZoV Γ cf l _ _ _ k
noncomputable def lpW (Γ:Ctx) (k:Nat) (live outs:List Nat) (a:C) (vs:List V) (H:Zd):Option (Ex×List V×Zd):=
  itW (fun vs H=>ZcK k live outs (Zx Γ (evW Γ) itW k a (ZbX live vs) H)) vs H
noncomputable def ZfA (Γ:Ctx) (k0:Nat) (c:C) (e:Env) (H:Zd) (k:Ex→Env→Zd→Option β):Option β:=
  C.rec (motive:=fun _=>Env→Zd→(Ex→Env→Zd→Option β)→Option β)
    (fun e H k=>k .normal e H) (fun e H k=>k .ret e H) (fun id e H k=>k (.exit id) e H)
    (fun _ _ ia ib e H k=>ia e H fun x e H=>(match x with | .normal=>ib e H k | .exit i=>k (.exit i) e H | .ret=>k .ret e H))
    (fun x _ _ ia ib e H k=>(match x.val e with | .d (.bool t)=>brL t (ia e H k) (ib e H k) | _=>none))
    (fun id _ ia e H k=>ia e H fun x e H=>(match x with | .exit j=>(match Nat.beq j id with | true=>k .normal e H | false=>k (.exit j) e H) | .normal=>k .normal e H | .ret=>k .ret e H))
    (fun live outs a _ e H k=>ZmB k0 (live.map e) H fun vs H=>bnd (lpW Γ k0 live outs a vs H) fun r=>k r.1 (ZbX outs r.2.1) r.2.2)
    (fun l e H k=>Zuy Γ (evW Γ) l e H fun e H=>k .normal e H)
    (fun l e H k=>ZpF Γ (evW Γ) [] l e H fun e H=>k .normal e H) c e H k
theorem ZkK (Γ:Ctx) (k0:Nat):∀(c:C) (e:Env) (H:Zd) (k:Ex→Env→Zd→Option β),ZfA Γ k0 c e H k=(match Zx Γ (evW Γ) itW k0 c e H with | some (x,e,H)=>k x e H | none=>none):=by
  intro c
  induction c with
  | skip=>intros;rfl
  | ret=>intros;rfl
  | exit id=>intros;rfl
  | seq a b iha ihb=>
    intro e H k
    show(ZfA Γ k0 a e H fun x e H=>(match x with | .normal=>ZfA Γ k0 b e H k | .exit i=>k (.exit i) e H | .ret=>k .ret e H))=_
    unfold Zx
    rw[iha]
    cases h:Zx Γ (evW Γ) itW k0 a e H with
    | none=>rfl
    | some q=>
      obtain⟨x,e1,H1⟩:=q
      cases x with
      | normal=>exact ihb e1 H1 k
      | exit i=>rfl
      | ret=>rfl
  | cond x a b iha ihb=>
    intro e H k
    show(match x.val e with | .d (.bool t)=>brL t (ZfA Γ k0 a e H k) (ZfA Γ k0 b e H k) | _=>none)=_
    unfold Zx
    cases h:x.val e<;>try rfl
    rename_i y
    cases y<;>try rfl
    rename_i t
    cases t
    · exact ihb e H k
    · exact iha e H k
  | block id a iha=>
    intro e H k
    show(ZfA Γ k0 a e H fun x e H=>(match x with | .exit j=>(match Nat.beq j id with | true=>k .normal e H | false=>k (.exit j) e H) | .normal=>k .normal e H | .ret=>k .ret e H))=_
    unfold Zx
    rw[iha]
    cases h:Zx Γ (evW Γ) itW k0 a e H with
    | none=>rfl
    | some q=>
      obtain⟨x,e1,H1⟩:=q
      cases x with
      | normal=>rfl
      | exit j=>dsimp only;cases h2:Nat.beq j id<;>rfl
      | ret=>rfl
  | loop live outs a iha=>
    intro e H k
    show(ZmB k0 (live.map e) H fun vs H=>bnd (lpW Γ k0 live outs a vs H) fun r=>k r.1 (ZbX outs r.2.1) r.2.2)=_
    unfold Zx
    rw[ZrX]
    cases h:ZmX k0 (live.map e) H with
    | none=>rfl
    | some q=>
      obtain⟨vs,H1⟩:=q
      simp only[lpW,Zc5]
      cases h2:itW (fun vs H=>ZcK k0 live outs (Zx Γ (evW Γ) itW k0 a (ZbX live vs) H)) vs H1 with
      | none=>rfl
      | some r=>obtain⟨x,vs,H⟩:=r;rfl
  | ops l=>
    intro e H k
    show(Zuy Γ (evW Γ) l e H fun e H=>k .normal e H)=_
    unfold Zx
    rw[Zq3]
    cases h:Zd4 Γ (evW Γ) l e H<;>rfl
  | draw l=>
    intro e H k
    show(ZpF Γ (evW Γ) [] l e H fun e H=>k .normal e H)=_
    unfold Zx
    rw[ZoV]
    cases h:ZdC Γ (evW Γ) [] l e H<;>rfl
theorem ZzG (Γ:Ctx) (k:Nat) (live outs:List Nat) (a:C) (vs:List V) (H:Zd) :
    lpW Γ k live outs a vs H=ZfA Γ k a (ZbX live vs) H fun x e H=>(match x with
      | .normal=>ZmB k (live.map e) H fun vs H=>lpW Γ k live outs a vs H
      | x=>Zda k (outs.map e) H fun _ vs H=>some (x,vs,H)):=by
  unfold lpW
  rw[Zzr,ZkK]
  cases h:Zx Γ (evW Γ) itW k a (ZbX live vs) H with
  | none=>rfl
  | some q=>
    obtain⟨x,e,H1⟩:=q
    cases x with
    | normal=>
      simp only[ZcK]
      rw[ZrX]
      cases h2:ZmX k (live.map e) H1 with
      | none=>rfl
      | some r=>obtain⟨vs,H2⟩:=r;rfl
    | exit j=>
      simp only[ZcK]
      rw[Zby]
      cases h2:extract k (outs.map e) H1 with
      | none=>rfl
      | some r=>obtain⟨L,vs,H2⟩:=r;rfl
    | ret=>
      simp only[ZcK]
      rw[Zby]
      cases h2:extract k (outs.map e) H1 with
      | none=>rfl
      | some r=>obtain⟨L,vs,H2⟩:=r;rfl
theorem Zzc (Γ:Ctx) (f:Nat) (fn:FnI) (args:List V) (H:Zd) (hc:Γ.code f=some fn) (hn:Nat.beq args.length fn.nargs=true) :
    evW Γ f args H=ZfA Γ H.length fn.body (Zbe 0 args) H fun x e H1=>(match x with
      | .exit _=>none
      | _=>(match Zhv e H1 fn.res with
        | some l=>Zda H.length [Zem l] H1 fun _ vs H2=>(match vs with | [v]=>some (v,H2) | _=>none)
        | none=>none)):=by
  rw[ZzP]
  unfold Zfp
  simp only[hc,hn,cond_true]
  rw[ZkK]
  cases h:Zx Γ (evW Γ) itW H.length fn.body (Zbe 0 args) H with
  | none=>rfl
  | some q=>
    obtain⟨x,e,H1⟩:=q
    cases x<;>try rfl
    all_goals
      dsimp only
      cases h2:Zhv e H1 fn.res with
      | none=>rfl
      | some l=>
        dsimp only
        rw[Zby]
        cases h3:extract H.length [Zem l] H1 with
        | none=>rfl
        | some q=>
          obtain⟨L,vs,H2⟩:=q
          match vs with
          | []=>rfl
          | [v]=>rfl
          | _ :: _ :: _=>rfl
end
theorem ZCv {β:Type} (x y:Option β):br true x y=x:=ZbQ _ _ _
theorem ZC1 {β:Type} (x y:Option β):br false x y=y:=ZbQ _ _ _
theorem ZrA {β:Type} (x:Option β):bnd x some=x:=by rw[Zc5];cases x<;>rfl
attribute [irreducible] br bnd lpW
end Go.Proofs.YtgcfmiajkbbmeaaGreatE
namespace Go.Proofs.YtgcfmiajkbbmeaaGreatE
open Go
open Go.IntKind (u64 i64 u32 i32 u8)
structure ZCa where
 op:Int
 arg:Int
 work:Int
 deriving DecidableEq
structure Zt where
 src:Int
 dst:Int
 deriving DecidableEq
structure ZtA where
 maker:Int
 user:Int
 pos:Int
 deriving DecidableEq
structure ZrG where
 ins:List Int
 outs:List Int
 deriving DecidableEq
structure ZvY where
 period:Int
 deadline:Int
 parts:List ZCa
 edges:List Zt
 futures:List ZtA
 barriers:List ZrG
 deriving DecidableEq
abbrev Za (n:Int):D:=.int .i64 n
abbrev Zex (τ:Bool) (l:List Int):D:=.list τ (l.map Za)
abbrev Zs (e:Zt):D:=.agg [Za e.src,Za e.dst]
theorem Zz8 {n:Int} (h1 : -9223372036854775808≤n) (h2:n<9223372036854775808):i64.wrap n=n:=by
 show(if (true&&decide (n % 18446744073709551616 ≥ 9223372036854775808))=true then n % 18446744073709551616-18446744073709551616 else n % 18446744073709551616)=n
 by_cases h:n % 18446744073709551616 ≥ 9223372036854775808
 ·rw[decide_eq_true h];simp only[Bool.and_self,if_true];omega
 ·rw[decide_eq_false h];simp only[Bool.and_false,Bool.false_eq_true,if_false];omega
theorem Zww {α:Type} (xs:List α) (i:Nat):ZK xs (i:Int)=xs[i]?:=by
 unfold ZK
 have:decide ((0:Int)≤i)=true:=by simp
 rw[this];simp[ZA]
theorem ZBO (Γ:Ctx) (k:Nat) (live outs:List Nat) (a:C) (vs:List V) (H:Zd) :
  lpW Γ k live outs a vs H=ZfA Γ k a (ZbX live vs) H fun x e H=>(match x with
   | .normal=>ZmB k (live.map e) H fun vs H=>bnd (lpW Γ k live outs a vs H) some
   | x=>Zda k (outs.map e) H fun _ vs H=>some (x,vs,H)):=by
 refine(ZzG Γ k live outs a vs H).trans (congrArg (ZfA Γ k a (ZbX live vs) H) ?_)
 funext x e H
 cases x
 ·exact congrArg (ZmB k (live.map e) H) (funext fun vs=>funext fun H=>(ZrA _).symm)
 ·rfl
 ·rfl
theorem Zgv {α:Type}{f:α→D}{sz:Nat} (hf:∀x,(f x).cells.length=sz∧(V.d (f x)).okb=true) (l:List α) (i:Nat):Zha sz (l.map f) i=true:=by
 unfold Zha
 rw[ZA,List.getElem?_map]
 cases l[i]? with
 | none=>rfl
 | some x=>simp[hf x]
def first {α:Type} (p:α→Bool):Nat→List α→Option Nat
 | _,[]=>none
 | i,x :: l=>bif p x then some i else first p (i+1) l
theorem Zzs {Γ:Ctx}{f:Nat}{args:List V}{H:Zd}{r:V×Zd} (n:Nat) (h:evN Γ n f args H=some r):evW Γ f args H=some r:=(ZgK Γ f args H r).2 ⟨n,h⟩
theorem Zq1 {α:Type}{f:α→D}{p:α→Prop}:∀{xs:List D},(∀y∈xs,∃a,y=f a∧p a)→∃l:List α,xs=l.map f∧∀a∈l,p a
 | [],_=>⟨[],rfl,by simp⟩
 | x :: xs,h=>by
  obtain⟨a,ha,hp⟩:=h x (by simp)
  obtain⟨l,hl,hq⟩:=Zq1 (xs:=xs) fun y hy=>h y (by simp[hy])
  refine⟨a :: l,by rw[ha,hl];rfl,fun b hb=>?_⟩
  rcases List.mem_cons.1 hb with rfl | hb
  ·exact hp
  ·exact hq b hb
def I64 (n:Int):Prop:=-9223372036854775808≤n∧n<9223372036854775808
theorem Zrd {n:Int} (h:(Lit.int .i64 n).wf=true):I64 n:=by
 unfold Lit.wf at h
 simp only[Bool.and_eq_true,decide_eq_true_eq] at h
 have e1:i64.min = -9223372036854775808:=by decide
 have e2:i64.max=9223372036854775807:=by decide
 rw[e1,e2] at h
 unfold I64
 omega
theorem ZAf {y:D}{n:Nat} (h:y.isAgg=true):y = .agg y.cells:=by
 cases y<;>first | rfl | cases h
theorem ZyD {y:D} (h:y.isAgg=false):y.cells=[y]:=by
 cases y<;>first | rfl | cases h
theorem Zzg {n:Nat} (h:n≤maxLen):n<9223372036854775808:=by
 unfold maxLen at h;omega
def ZAF (l:List Int):Prop:=l.length<9223372036854775808∧∀n∈l,I64 n
theorem ZtK {x:D} (h:ZyF (.sl false [.int .i64]) x):∃l,x=Zex true l∧ZAF l:=by
 obtain⟨xs,rfl,h1,h2⟩:=h
 obtain⟨l,hl,hp⟩:=Zq1 (f:=Za) (p:=I64) (xs:=xs) fun y hy=>by
  obtain⟨a1,a2⟩:=h2 y hy
  rw[ZyD a1] at a2
  obtain⟨d,r,e1,⟨n,e2,e3⟩,_⟩:=a2
  cases e1
  exact⟨n,e2,Zrd e3⟩
 subst hl
 exact⟨l,rfl,by simpa using Zzg h1,hp⟩
def ZzU (e:Zt):Prop:=I64 e.src∧I64 e.dst
theorem Zym {x:D}{els:List Lf}{α:Type}{f:α→D}{p:α→Prop} (h:ZyF (.sl true els) x) (hf:∀cs,ZdV els cs→∃a,D.agg cs=f a∧p a):∃l:List α,x = .list true (l.map f)∧l.length<9223372036854775808∧∀a∈l,p a:=by
 obtain⟨xs,rfl,h1,h2⟩:=h
 obtain⟨l,hl,hp⟩:=Zq1 (f:=f) (p:=p) (xs:=xs) fun y hy=>by
  obtain⟨a1,a2⟩:=h2 y hy
  rw[ZAf (n:=0) a1]
  exact hf _ a2
 subst hl
 exact⟨l,rfl,by simpa using Zzg h1,hp⟩
theorem Zz1 {xs:List D} (h:ZdV [.int .i64] xs):∃n,Zic false xs=Za n∧I64 n:=by
 obtain⟨_,_,rfl,⟨n,rfl,w⟩,rfl⟩:=h
 exact⟨n,rfl,Zrd w⟩
def lpN {S R:Type} (step:S→Option (S⊕R)):Nat→S→Option R
 | 0,_=>none
 | n+1,s=>(match step s with | some (.inl s')=>lpN step n s' | some (.inr r)=>some r | none=>none)
theorem ZsF {S R:Type} (step:S→Option (S⊕R)):∀(n m:Nat) (s:S) (r:R),n≤m→lpN step n s=some r→lpN step m s=some r
 | 0,_,_,_,_,h=>by cases h
 | n+1,0,_,_,hm,_=>by omega
 | n+1,m+1,s,r,hm,h=>by
  unfold lpN at h ⊢
  cases hs:step s with
  | none=>rw[hs] at h;cases h
  | some t=>
   rw[hs] at h
   cases t with
   | inl s'=>exact ZsF step n m s' r (by omega) h
   | inr r'=>exact h
noncomputable def lp {S R:Type} (step:S→Option (S⊕R)) (s:S):Option R:=@dite _ (∃n,(lpN step n s).isSome=true) (Classical.propDecidable _) (fun h=>lpN step (Classical.choose h) s) fun _=>none
theorem Zv0 {S R:Type}{step:S→Option (S⊕R)}{s:S}{r:R}{n:Nat} (h:lpN step n s=some r):lp step s=some r:=by
 unfold lp
 have hx:∃n,(lpN step n s).isSome=true:=⟨n,by rw[h];rfl⟩
 rw[dif_pos hx]
 have h2:=Classical.choose_spec hx
 cases h3:lpN step (Classical.choose hx) s with
 | none=>rw[h3] at h2;cases h2
 | some q=>
  have h4:=ZsF step _ (max n (Classical.choose hx)) s q (by omega) h3
  have h5:=ZsF step _ (max n (Classical.choose hx)) s r (by omega) h
  rw[h4] at h5
  exact h5
theorem Zw6 {S R:Type}{step:S→Option (S⊕R)}{s:S}{r:R} (h:lp step s=some r):∃n,lpN step n s=some r:=by
 unfold lp at h
 split at h
 ·exact⟨_,h⟩
 ·cases h
theorem Za7 {S R:Type} (step:S→Option (S⊕R)) (s:S):lp step s=(match step s with | some (.inl s')=>lp step s' | some (.inr r)=>some r | none=>none):=by
 have key:∀r,lp step s=some r↔(match step s with | some (.inl s')=>lp step s' | some (.inr r)=>some r | none=>none)=some r:=by
  intro r
  constructor
  ·intro h
   obtain⟨n,hn⟩:=Zw6 h
   cases n with
   | zero=>cases hn
   | succ n=>
    unfold lpN at hn
    cases hs:step s with
    | none=>rw[hs] at hn;cases hn
    | some t=>
     rw[hs] at hn
     cases t with
     | inl s'=>exact Zv0 hn
     | inr r'=>exact hn
  ·intro h
   cases hs:step s with
   | none=>rw[hs] at h;cases h
   | some t=>
    rw[hs] at h
    cases t with
    | inl s'=>
     obtain⟨n,hn⟩:=Zw6 h
     exact Zv0 (n:=n+1) (by unfold lpN;rw[hs];exact hn)
    | inr r'=>exact Zv0 (n:=1) (by unfold lpN;rw[hs];exact h)
 cases h1:lp step s with
 | some r=>exact((key r).1 h1).symm
 | none=>
  cases h2:(match step s with | some (.inl s')=>lp step s' | some (.inr r)=>some r | none=>none) with
  | none=>rfl
  | some r=>rw[(key r).2 h2] at h1;cases h1
def ZbD {α β:Type} (E:Option α) (Q:α→Option β→Prop) (rhs:Option β):Prop:=∀a,E=some a→Q a rhs
section
variable {α β:Type} {A B:Option α} {Q:α→Option β→Prop}
theorem ZaJ {c c':Bool}{X Y:Option β} (h:c=c') (h1:ZbD A Q X) (h2:ZbD B Q Y):ZbD (bif c' then A else B) Q (br c X Y):=by
 subst h
 cases c with
 | true=>rw[ZCv];exact h1
 | false=>rw[ZC1];exact h2
theorem Zlf {c:Bool}{X Y:Option β} (h:c=true) (h1:ZbD A Q X):ZbD A Q (br c X Y):=by rw[h,ZCv];exact h1
theorem ZBM {c:Bool}{X Y:Option β} (h:c=false) (h1:ZbD A Q Y):ZbD A Q (br c X Y):=by rw[h,ZC1];exact h1
theorem Zf {γ:Type}{x x':γ}{K:γ→Option β} (h:x=x') (k:ZbD A Q (K x')):ZbD A Q (bnd (some x) K):=by rw[h,ZiG];exact k
theorem Zq {γ:Type}{X:Option γ}{x:γ}{K:γ→Option β} (h:X=some x) (k:ZbD A Q (K x)):ZbD A Q (bnd X K):=by rw[h,ZiG];exact k
theorem Ze {γ δ:Type}{E:Option γ}{A:γ→Option α}{X:Option δ}{K:δ→Option β} (enc:γ→δ) (h:∀r,E=some r→X=some (enc r)) (k:∀r,E=some r→ZbD (A r) Q (K (enc r))):ZbD (E.bind A) Q (bnd X K):=by
 intro a ha
 cases hE:E with
 | none=>rw[hE] at ha;cases ha
 | some r=>
  rw[hE] at ha
  rw[h r hE,ZiG]
  exact k r hE a ha
theorem Zsk {γ δ:Type} (f:γ→δ) (l:List γ) (i:Int):ZK (l.map f) i=(ZK l i).map f:=by
 unfold ZK
 cases decide (0≤i) with
 | false=>rfl
 | true=>simp only[cond_true,ZA,List.getElem?_map]
theorem Zya {γ:Type}{f:γ→D}{l:List γ}{xs:List D}{i i':Int}{A:γ→Option α}{K:D→Option β} (hx:xs=l.map f) (hi:i=i') (k:∀r,ZK l i'=some r→ZbD (A r) Q (K (f r))):ZbD ((ZK l i').bind A) Q (bnd (ZK xs i) K):=by
 subst hx hi
 exact Ze f (fun r h=>by rw[Zsk,h];rfl) k
theorem Z1 {γ:Type}{f:γ→D}{l:List γ}{xs:List D}{i:Int}{r:γ} (hx:xs=l.map f) (h:ZK l i=some r):nth xs i.toNat=some (f r):=by
 subst hx
 unfold ZK at h
 cases hd:decide (0≤i) with
 | false=>rw[hd] at h;cases h
 | true=>rw[hd,cond_true,ZA] at h;rw[ZA,List.getElem?_map,h];rfl
theorem ZdK {γ:Type}{f:γ→D}{l:List γ}{xs:List D}{i:Int}{r:γ} (hx:xs=l.map f) (h:ZK l i=some r):ZK xs i=some (f r):=by
 subst hx
 rw[Zsk,h];rfl
theorem ZoC:∀l:List Int,ZfG (List.map Za l)=some l
 | []=>rfl
 | x :: r=>by
  show(match ZfG (List.map Za r) with | some l=>some (x :: l) | none=>none)=_
  rw[ZoC r]
theorem Zsp {H:Zd}{b:Nat}{m:List Int} (h:nth H b=some (.arr 1 (List.map Za m))):Zp2 H (.sl b 1)=some (b,m):=by
 show(match nth H b with | some (.arr 1 xs)=>(match ZfG xs with | some zs=>some (b,zs) | none=>none) | _=>none)=_
 rw[h]
 show(match ZfG (List.map Za m) with | some zs=>some (b,zs) | none=>none)=_
 rw[ZoC]
theorem Zp {a:α}{X:Option β} (h:Q a X):ZbD (some a) Q X:=fun b hb=>by cases hb;exact h
theorem Z3 {X:Option β}:ZbD (none:Option α) Q X:=fun b hb=>by cases hb
theorem ZtI {γ:Type} (f:γ→D) (l:List γ):Nat.blt 0 (List.map f l).length=Nat.blt 0 (List.length l):=by rw[List.length_map]
noncomputable def evD (Γ:Ctx) (f:Nat) (args:List V):Option D:=bnd (evW Γ f args []) fun r=>(match fr r.2 6 r.1 with | some (x,_)=>some x | none=>none)
theorem Zu4 (Γ:Ctx) (f:Nat) (args:List V) (K:V→Option β):bnd (evW Γ f args []) (Zmw K)=bnd (evD Γ f args) (fun x=>Zuo x K):=by
 unfold evD Zmw
 simp only[Zc5]
 cases evW Γ f args [] with
 | none=>rfl
 | some r=>
  dsimp only
  cases fr r.2 6 r.1 with
  | none=>rfl
  | some q=>rfl
theorem ZwZ {γ:Type}{Γ:Ctx}{f:Nat}{args args':List V}{E:Option γ}{A:γ→Option α}{K:V→Option β} (enc:γ→D) (w:∀r,E=some r→evD Γ f args'=some (enc r)) (ha:args=args') (k:∀r,E=some r→ZbD (A r) Q (Zuo (enc r) K)):ZbD (E.bind A) Q (bnd (evW Γ f args []) (Zmw K)):=by
 subst ha
 rw[Zu4]
 exact Ze enc w k
end
theorem Zuq {β δ:Type} (Γ:Ctx) (k0:Nat) (c:C) (e:Env) (H:Zd) (k:Ex→Env→Zd→Option β) (p:β→Option δ):bnd (ZfA Γ k0 c e H k) p=ZfA Γ k0 c e H fun x e H=>bnd (k x e H) p:=by
 rw[ZkK,ZkK]
 cases Zx Γ (evW Γ) itW k0 c e H with
 | none=>exact Zc5 _ _
 | some q=>rfl
theorem ZBx (Γ:Ctx) (f:Nat) (fn:FnI) (args:List V) (hc:Γ.code f=some fn) (hn:Nat.beq args.length fn.nargs=true) :
  evD Γ f args=ZfA Γ 0 fn.body (Zbe 0 args) [] fun x e H1=>(match x with
   | .exit _=>none
   | _=>(match Zhv e H1 fn.res with
    | some l=>Zda 0 [Zem l] H1 fun _ vs H2=>(match vs with | [v]=>(match fr H2 6 v with | some (x,_)=>some x | none=>none) | _=>none)
    | none=>none)):=by
 unfold evD
 rw[Zzc Γ f fn args [] hc hn,Zuq]
 refine congrArg (ZfA Γ 0 fn.body (Zbe 0 args) []) ?_
 funext x e H1
 have none_b:∀{γ δ:Type} (p:γ→Option δ),bnd none p=none:=fun p=>Zc5 _ _
 cases x with
 | exit j=>exact none_b _
 | normal=>
  dsimp only
  cases Zhv e H1 fn.res with
  | none=>exact none_b _
  | some l=>
   dsimp only
   rw[Zby,Zby]
   show bnd (match extract 0 [Zem l] H1 with | some (L,vs,H)=>_ | none=>none) _=_
   cases extract 0 [Zem l] H1 with
   | none=>exact none_b _
   | some q=>
    obtain⟨L,vs,H2⟩:=q
    match vs with
    | []=>exact none_b _
    | [v]=>exact ZiG _ _
    | _ :: _ :: _=>exact none_b _
 | ret=>
  dsimp only
  cases Zhv e H1 fn.res with
  | none=>exact none_b _
  | some l=>
   dsimp only
   rw[Zby,Zby]
   show bnd (match extract 0 [Zem l] H1 with | some (L,vs,H)=>_ | none=>none) _=_
   cases extract 0 [Zem l] H1 with
   | none=>exact none_b _
   | some q=>
    obtain⟨L,vs,H2⟩:=q
    match vs with
    | []=>exact none_b _
    | [v]=>exact ZiG _ _
    | _ :: _ :: _=>exact none_b _
theorem ZAi {Γ:Ctx}{f:Nat}{args:List V}{x:D} (n:Nat) (h:(match evN Γ n f args [] with | some (v,H)=>(match fr H 6 v with | some (x,_)=>some x | none=>none) | none=>none)=some x):evD Γ f args=some x:=by
 cases hn:evN Γ n f args [] with
 | none=>rw[hn] at h;cases h
 | some r=>
  rw[hn] at h
  obtain⟨v,H⟩:=r
  unfold evD
  rw[Zzs n hn,ZiG]
  exact h
theorem ZBg {S R β:Type}{step:S→Option (S⊕R)}{G:S→Option β} (x:R→β)
  (h:∀(s:S) (rec:S→Option R),(∀s r,rec s=some r→G s=some (x r))→ZbD (step s) (fun t rhs=>(match t with | .inl s'=>∀r,rec s'=some r→rhs=some (x r) | .inr r=>rhs=some (x r))) (G s)):∀s r,lp step s=some r→G s=some (x r):=by
 intro s r hr
 obtain⟨n,hn⟩:=Zw6 hr
 clear hr
 induction n generalizing s r with
 | zero=>cases hn
 | succ n ih=>
  unfold lpN at hn
  cases hs:step s with
  | none=>rw[hs] at hn;cases hn
  | some t=>
   rw[hs] at hn
   have:=h s (lpN step n) ih t hs
   cases t with
   | inl s'=>exact this r hn
   | inr r'=>cases hn;exact this
theorem Zm {S R β:Type}{G:Option β}{rec:S→Option R}{x:R→β}{s':S} (h:∀r,rec s'=some r→G=some (x r)):ZbD (some (Sum.inl s')) (fun(t:S⊕R) (rhs:Option β)=>(match t with | .inl s'=>∀r,rec s'=some r→rhs=some (x r) | .inr r=>rhs=some (x r))) (bnd G some):=by
 intro a ha
 cases ha
 intro r hr
 rw[ZrA]
 exact h r hr
theorem ZxU {Γ:Ctx}{f:Nat}{args:List V} (h:evD Γ f args=some (.bool true)):∃H',evW Γ f args []=some (.d (.bool true),H'):=by
 unfold evD at h
 rw[Zc5] at h
 cases he:evW Γ f args [] with
 | none=>rw[he] at h;cases h
 | some r=>
  obtain⟨v,H⟩:=r
  rw[he] at h
  refine⟨H,?_⟩
  dsimp only at h
  cases hf:fr H 6 v with
  | none=>rw[hf] at h;cases h
  | some q=>
   obtain⟨x,ks⟩:=q
   rw[hf] at h
   cases h
   unfold fr at hf
   split at hf
   ·rename_i x
    split at hf
    ·rename_i ts
     cases he:Ztm ts<;>rw[he] at hf<;>cases hf
    ·rename_i y hy
     cases he:x.esc<;>rw[he] at hf<;>cases hf
     rfl
   all_goals
    first
    | cases hf
    | (split at hf<;>first | cases hf | (rename_i sz' xs _;revert hf;cases Nat.beq _ sz'<;>intro hf<;>cases hf) | skip)
   all_goals
    rename_i l ks _
    first
    | (cases he:D.escs l<;>rw[he] at hf<;>cases hf)
    | cases hf
theorem Zzn {α β:Type}{A B:Option α}{Q:α→Option β→Prop}{X:Option β} (h:ZbD A Q X):ZbD (bif true then A else B) Q X:=h
theorem ZAl {α β:Type}{A B:Option α}{Q:α→Option β→Prop}{X:Option β} (h:ZbD B Q X):ZbD (bif false then A else B) Q X:=h
abbrev w64 (n:Int):Int:=i64.wrap n
section
variable {γ:Type}
theorem Zr (f:γ→D) (l:List γ):(((List.map f l).length:Nat):Int)=((l.length:Nat):Int):=by rw[List.length_map]
theorem ZgP (f:γ→D) (z:γ) (n:Int):List.replicate n.toNat (f z)=List.map f (List.replicate n.toNat z):=by rw[List.map_replicate]
theorem Zqa {α:Type}:∀(l:List α) (i:Nat) (y:α),Zck l i y=l.set i y
 | [],_,_=>rfl
 | _ :: _,0,_=>rfl
 | x :: l,i+1,y=>congrArg (x :: ·) (Zqa l i y)
theorem Zbp (f:γ→D) (l:List γ) (i:Nat) (y:γ):Zck (List.map f l) i (f y)=List.map f (List.set l i y):=by rw[Zqa,List.map_set]
theorem Zee (f:γ→D) (l m:List γ):List.map f l++List.map f m=List.map f (l++m):=by rw[List.map_append]
theorem Zeg (f:γ→D) (l:List γ) (n:Nat):Nat.ble ((List.map f l).length+n) lim=Nat.ble (l.length+n) lim:=by rw[List.length_map]
theorem ZhU (f:γ→D) (l:List γ):Nat.ble (List.map f l).length lim=Nat.ble l.length lim:=by rw[List.length_map]
theorem Zxu (f:γ→D) (l:List γ) (o n:Nat):List.take n (List.drop o (List.map f l))=List.map f (List.take n (List.drop o l)):=by rw[← List.map_drop,← List.map_take]
theorem Zq5 (f:γ→D) (l:List γ) (hi:Nat):List.take (hi-0) (List.drop 0 (List.map f l))=List.map f (List.take hi l):=by rw[Zxu];rfl
theorem ZoD (f:γ→D) (l:List γ) (lo:Nat):List.take ((List.map f l).length-lo) (List.drop lo (List.map f l))=List.map f (List.drop lo l):=by
 rw[Zxu,List.length_map,List.take_of_length_le (by rw[List.length_drop];exact Nat.le_refl _)]
theorem ZvX (f:γ→D) {sz:Nat} (hf:∀x,(f x).cells.length=sz∧(V.d (f x)).okb=true) (l:List γ) (i:Nat):(Nat.beq i 0 || Zha sz (List.map f l) i)=true:=by rw[Zgv hf,Bool.or_true]
theorem Zrk (f:γ→D) (l:List γ) (lo:Nat):(Nat.ble lo (List.map f l).length&&Nat.ble (List.map f l).length (List.map f l).length)=Nat.ble lo l.length:=by rw[List.length_map,Nat.ble_eq_true_of_le (Nat.le_refl l.length),Bool.and_true]
theorem ZwA (f:γ→D) (l:List γ) (hi:Nat):(Nat.ble 0 hi&&Nat.ble hi (List.map f l).length)=Nat.ble hi l.length:=by rw[List.length_map];cases hi<;>rfl
end
end Go.Proofs.YtgcfmiajkbbmeaaGreatE
namespace Go.Proofs.YtgcfmiajkbbmeaaGreatE
open Go
open Go.IntKind (u64 i64 u32 i32 u8)
theorem Zd1 {i n:Nat} (h:i<n):decide ((i:Int)<(n:Int))=true:=decide_eq_true (by omega)
theorem Zd7 (n:Nat):decide ((n:Int)<(n:Int))=false:=decide_eq_false (by omega)
theorem ZE {γ:Type}{l:List γ}{i:Nat}{x:γ} (h:l[i]? = some x):ZK l (i:Int)=some x:=(Zww l i).trans h
theorem Zrf {γ:Type}{l:List γ}{i:Int}{x:γ} (h0:0≤i) (h:l[i.toNat]? = some x):ZK l i=some x:=by
 have:=ZE h
 rwa [Int.toNat_of_nonneg h0] at this
theorem Zbf {n:Int} (h1 : -9223372036854775808≤n) (h2:n<9223372036854775808):w64 n=n:=Zz8 h1 h2
theorem Z0 {i n:Nat} (h:i<n) (hn:n<9223372036854775808):w64 ((i:Int)+1)=((i+1:Nat):Int):=by rw[Zbf (by omega) (by omega)];omega
theorem Zew {n:Nat} (h:n≤1073741824):Nat.ble n lim=true:=Nat.ble_eq_true_of_le h
def Zpg {γ S R:Type} (f:Nat→γ→S→Option (S⊕R)) (fin:S→Option R):Nat→List γ→S→Option R
 | _,[],s=>fin s
 | i,x :: l,s=>(match f i x s with | some (.inl s')=>Zpg f fin (i+1) l s' | some (.inr r)=>some r | none=>none)
theorem ZtD {γ S St R:Type} (l:List γ) (step:St→Option (St⊕R)) (st:Nat→S→St) (f:Nat→γ→S→Option (S⊕R)) (fin:S→Option R)
  (h1:∀i x s,i<l.length→l[i]? = some x→step (st i s)=(match f i x s with | some (.inl s')=>some (.inl (st (i+1) s')) | some (.inr r)=>some (.inr r) | none=>none))
  (h2:∀s,step (st l.length s)=(fin s).map Sum.inr):∀s,lp step (st 0 s)=Zpg f fin 0 l s:=by
 have key:∀(k i:Nat) (s:S),i+k=l.length→lp step (st i s)=Zpg f fin i (l.drop i) s:=by
  intro k
  induction k with
  | zero=>
   intro i s hi
   have:i=l.length:=by omega
   subst this
   rw[List.drop_length,Za7,h2]
   unfold Zpg
   cases fin s<;>rfl
  | succ k ih=>
   intro i s hi
   have hi':i<l.length:=by omega
   rw[List.drop_eq_getElem_cons hi',Za7,h1 i l[i] s hi' (List.getElem?_eq_getElem hi')]
   conv=>rhs;unfold Zpg
   cases f i l[i] s with
   | none=>rfl
   | some t=>
    cases t with
    | inl s'=>exact ih (i+1) s' (by omega)
    | inr r=>rfl
 intro s
 have:=key l.length 0 s (by omega)
 rwa [List.drop_zero] at this
def Zip {γ R:Type} (p:Nat→γ→Bool) (out:Nat→γ→R) (fin:R):Nat→List γ→R
 | _,[]=>fin
 | i,x :: l=>bif p i x then out i x else Zip p out fin (i+1) l
theorem Zju {γ R:Type} (l:List γ) (step:Int→Option (Int⊕R)) (p:Nat→γ→Bool) (out:Nat→γ→R) (fin:R)
  (h1:∀i x,i<l.length→l[i]? = some x→step (i:Int)=some (bif p i x then .inr (out i x) else .inl ((i+1:Nat):Int)))
  (h2:step (l.length:Int)=some (.inr fin)):lp step 0=some (Zip p out fin 0 l):=by
 have key:=ZtD (S:=Unit) l step (fun i _=>(i:Int)) (fun i x _=>some (bif p i x then .inr (out i x) else .inl ())) (fun _=>some fin)
  (fun i x s hi hx=>by rw[h1 i x hi hx];cases p i x<;>rfl) (fun _=>h2) ()
 refine(key:lp step 0=_).trans ?_
 have:∀(l:List γ) (i:Nat),Zpg (S:=Unit) (fun i x _=>some (bif p i x then Sum.inr (out i x) else Sum.inl ())) (fun _=>some fin) i l ()=some (Zip p out fin i l):=by
  intro l
  induction l with
  | nil=>intro i;rfl
  | cons x l ih=>
   intro i
   unfold Zpg Zip
   cases p i x with
   | true=>rfl
   | false=>exact ih (i+1)
 exact this l 0
def ZjT {γ:Type} (p:Nat→γ→Bool):Nat→List γ→Bool
 | _,[]=>false
 | i,x :: l=>p i x || ZjT p (i+1) l
theorem Zrp {γ:Type} (p:γ→Bool):∀(l:List γ) (i:Nat),ZjT (fun _=>p) i l=l.any p
 | [],_=>rfl
 | x :: l,i=>by rw[ZjT,List.any_cons,Zrp p l]
theorem Zh7 {γ R:Type} (p:Nat→γ→Bool) (c fin:R):∀(l:List γ) (i:Nat),Zip p (fun _ _=>c) fin i l=bif ZjT p i l then c else fin
 | [],_=>rfl
 | x :: l,i=>by
  unfold Zip ZjT
  rw[Zh7 p c fin l (i+1)]
  cases p i x<;>rfl
theorem Zoj {γ R:Type} (p:γ→Bool) (fin:R):∀(l:List γ) (i:Nat),(∃j:Nat,Zip (fun _=>p) (fun i _=>(Sum.inl (i:Int):Int⊕R)) (.inr fin) i l = .inl (j:Int)∧l.any p=true)∨(Zip (fun _=>p) (fun i _=>(Sum.inl (i:Int):Int⊕R)) (.inr fin) i l = .inr fin∧l.any p=false)
 | [],_=>.inr ⟨rfl,rfl⟩
 | x :: l,i=>by
  unfold Zip
  rw[List.any_cons]
  cases h:p x with
  | true=>exact .inl ⟨i,rfl,rfl⟩
  | false=>simpa using Zoj p fin l (i+1)
theorem ZrH {γ:Type} (p:Nat→γ→Bool):∀(l:List γ) (i:Nat),ZjT p i l=true↔∃j x,l[j]? = some x∧p (i+j) x=true
 | [],i=>by simp[ZjT]
 | x :: l,i=>by
  rw[ZjT,Bool.or_eq_true,ZrH p l (i+1)]
  constructor
  ·rintro (h | ⟨j,y,hj,hp⟩)
   ·exact⟨0,x,rfl,h⟩
   ·exact⟨j+1,y,by simpa using hj,by rw[show i+(j+1)=i+1+j by omega];exact hp⟩
  ·rintro ⟨j,y,hj,hp⟩
   cases j with
   | zero=>left;simp at hj;subst hj;exact hp
   | succ j=>right;exact⟨j,y,by simpa using hj,by rw[show i+1+j=i+(j+1) by omega];exact hp⟩
end Go.Proofs.YtgcfmiajkbbmeaaGreatE
namespace Go.Proofs.YtgcfmiajkbbmeaaGreat
open Go Go.Proofs.YtgcfmiajkbbmeaaGreatE
open Go.IntKind (u64 i64 u32 i32 u8)
def lf (left:List Int) (n:Int):Int:=match left[n.toNat]? with | some x=>x | none=>0
theorem Zhb {left:List Int}{n:Int} (h0:0≤n) (h:n.toNat<left.length):left[n.toNat]? = some (lf left n):=by
  unfold lf
  rw[List.getElem?_eq_getElem h]
theorem ZxR {left:List Int}{i:Nat}{x:Int} (h:left[i]? = some x):lf left (i:Int)=x:=by
  unfold lf
  rw[Int.toNat_natCast,h]
theorem Zxo {left:List Int}{n v k:Int} (hn:0≤n∧n.toNat<left.length) (hk:0≤k):lf (left.set n.toNat v) k=if k=n then v else lf left k:=by
  unfold lf
  rw[List.getElem?_set]
  by_cases h:n.toNat=k.toNat
  · rw[if_pos h,if_pos hn.2,if_pos (by omega)]
  · rw[if_neg h,if_neg (by omega)]
def isN (left:List Int) (n:Int):Prop:=0≤n∧n.toNat<left.length
def Zh2 (E:List Zt) (left:List Int) (n:Int):Prop:=∀e∈E,e.dst=n→lf left e.src=0
def Rdy (E:List Zt) (left on:List Int) (n:Int):Prop:=isN left n∧0<lf left n∧n∉on∧Zh2 E left n
def Zmh (row:List Int):Prop:=∀(i j:Nat) (n:Int),row[i]? = some n→row[j]? = some n→n ≠ -1→i=j
structure Ze5 (E:List Zt) (left on:List Int):Prop where
  rng:∀x∈left,0≤x∧x≤1000
  run:∀n∈on,n = -1∨(isN left n∧0<lf left n∧Zh2 E left n)
  one:Zmh on
  over:∀n,isN left n→lf left n=0→Zh2 E left n
structure ZdX (E:List Zt) (left on row:List Int):Prop where
  len:row.length=on.length
  keep:∀(c:Nat) (n:Int),on[c]? = some n→n ≠ -1→row[c]? = some n
  new:∀(c:Nat) (n:Int),on[c]? = some (-1)→row[c]? = some n→n = -1∨Rdy E left on n
  one:Zmh row
  all : -1∈row→∀n,¬Rdy E left row n
def dec (left:List Int) (n:Int):List Int:=if n = -1 then left else left.set n.toNat (lf left n-1)
def ZM (left row:List Int):List Int:=row.foldl dec left
def ZI (left row:List Int):List Int:=row.map fun n=>if n = -1 then -1 else if lf (ZM left row) n=0 then -1 else n
theorem Znl (left:List Int) (n:Int):(dec left n).length=left.length:=by unfold dec;split<;>simp
theorem Zb9:∀(row left:List Int),(ZM left row).length=left.length
  | [],_=>rfl
  | n :: row,left=>by
    show(ZM (dec left n) row).length=_
    rw[Zb9 row,Znl]
theorem Zmh.tail {n:Int}{row:List Int} (h:Zmh (n :: row)):Zmh row∧(n ≠ -1→n∉row):=by
  refine⟨fun i j k h1 h2 h3=>?_,fun hn hm=>?_⟩
  · have:=h (i+1) (j+1) k h1 h2 h3
    omega
  · obtain⟨i,hi⟩:=List.getElem?_of_mem hm
    have:=h 0 (i+1) n rfl hi hn
    omega
theorem Zls:∀(row left:List Int),Zmh row→(∀n∈row,n = -1∨isN left n)→∀k,0≤k→lf (ZM left row) k=if k∈row then lf left k-1 else lf left k
  | [],left,_,_,k,_=>by simp[ZM]
  | n :: row,left,ho,hr,k,hk=>by
    obtain⟨ho1,ho2⟩:=ho.tail
    have ih:=Zls row (dec left n) ho1 (fun m hm=>by
      rcases hr m (by simp[hm]) with h | h
      · exact .inl h
      · exact .inr ⟨h.1,by rw[Znl];exact h.2⟩) k hk
    show lf (ZM (dec left n) row) k=_
    rw[ih]
    by_cases hn:n = -1
    · have e:dec left n=left:=by unfold dec;rw[if_pos hn]
      rw[e]
      have:(k∈n :: row)=(k∈row):=by
        rw[List.mem_cons]
        exact propext ⟨fun h => by rcases h with h | h; · omega
                                   · exact h,.inr⟩
      simp only[this]
    · have hin:isN left n:=by
        rcases hr n (by simp) with h | h
        · exact absurd h hn
        · exact h
      have e:lf (dec left n) k=if k=n then lf left n-1 else lf left k:=by
        unfold dec
        rw[if_neg hn]
        exact Zxo hin hk
      rw[e]
      by_cases hkn:k=n
      · subst hkn
        rw[if_neg (ho2 hn),if_pos rfl,if_pos (by simp)]
      · rw[if_neg hkn]
        have:(k∈n :: row)=(k∈row):=by
          rw[List.mem_cons]
          exact propext ⟨fun h => by rcases h with h | h; · exact absurd h hkn
                                     · exact h,.inr⟩
        simp only[this]
def busy (row:List Int):Nat:=row.countP fun n=>n != -1
theorem Zy0 {l:List Int}{i:Nat}{x v:Int} (h:l[i]? = some x):(l.set i v).sum=l.sum-x+v:=by
  induction l generalizing i with
  | nil=>cases h
  | cons a l ih=>
    cases i with
    | zero=>
      have:a=x:=Option.some.inj h
      subst this
      simp only[List.set_cons_zero,List.sum_cons]
      omega
    | succ i=>
      have h:l[i]? = some x:=h
      simp only[List.set_cons_succ,List.sum_cons,ih h]
      omega
theorem ZjE:∀(row left:List Int),(∀n∈row,n = -1∨isN left n)→(ZM left row).sum=left.sum-(busy row:Int)
  | [],left,_=>by simp[ZM,busy]
  | n :: row,left,hr=>by
    have ih:=ZjE row (dec left n) (fun m hm=>by
      rcases hr m (by simp[hm]) with h | h
      · exact .inl h
      · exact .inr ⟨h.1,by rw[Znl];exact h.2⟩)
    show(ZM (dec left n) row).sum=_
    rw[ih]
    unfold busy
    by_cases hn:n = -1
    · rw[List.countP_cons_of_neg (by simp[hn])]
      unfold dec
      rw[if_pos hn]
    · have hin:isN left n:=by
        rcases hr n (by simp) with h | h
        · exact absurd h hn
        · exact h
      rw[List.countP_cons_of_pos (by simp[hn])]
      unfold dec
      rw[if_neg hn,Zy0 (Zhb hin.1 hin.2)]
      omega
theorem ZdX.row_in {E:List Zt}{left on row:List Int} (f:ZdX E left on row) (c:Ze5 E left on):∀n∈row,n = -1∨(isN left n∧0<lf left n∧Zh2 E left n):=fun n hn=>by
  obtain⟨i,hi⟩:=List.getElem?_of_mem hn
  have hl:i<on.length:=by rw[← f.len];exact(List.getElem?_eq_some_iff.1 hi).1
  have ho:=List.getElem?_eq_getElem hl
  by_cases h:on[i] = -1
  · rw[h] at ho
    rcases f.new i n ho hi with h1 | ⟨h1,h2,_,h4⟩
    · exact .inl h1
    · exact .inr ⟨h1,h2,h4⟩
  · have:=f.keep i _ ho h
    rw[hi] at this
    have:=Option.some.inj this
    rw[this]
    exact c.run _ (List.getElem_mem hl)
theorem ZdX.nodes {E:List Zt}{left on row:List Int} (f:ZdX E left on row) (c:Ze5 E left on):∀n∈row,n = -1∨isN left n:=fun n hn=>by
  rcases f.row_in c n hn with h | h
  · exact .inl h
  · exact .inr h.1
theorem ZsX {E:List Zt}{left on:List Int} (c:Ze5 E left on) (n:Int):0≤lf left n∧lf left n≤1000:=by
  unfold lf
  cases h:left[n.toNat]? with
  | none=>simp
  | some x=>exact c.rng x (List.mem_of_getElem? h)
theorem ZdX.tick_lf {E:List Zt}{left on row:List Int} (f:ZdX E left on row) (c:Ze5 E left on) {k:Int} (hk:0≤k):lf (ZM left row) k=if k∈row then lf left k-1 else lf left k:=Zls row left f.one (f.nodes c) k hk
theorem ZdX.tick_le {E:List Zt}{left on row:List Int} (f:ZdX E left on row) (c:Ze5 E left on) {k:Int} (hk:0≤k):lf (ZM left row) k≤lf left k:=by
  rw[f.tick_lf c hk]
  split<;>omega
def Zds (E:List Zt) (n:Nat):Prop:=∀e∈E,(0≤e.src∧e.src.toNat<n)∧(0≤e.dst∧e.dst.toNat<n)
theorem ZdX.free {E:List Zt}{left on row:List Int} (hE:Zds E left.length) (f:ZdX E left on row) (c:Ze5 E left on) {n:Int} (h:Zh2 E left n):Zh2 E (ZM left row) n:=fun e he hd=>by
  have h1:=h e he hd
  have h0:=(hE e he).1
  rw[f.tick_lf c h0.1]
  split
  · rename_i hm
    rcases f.row_in c _ hm with h2 | ⟨_,h2,_⟩
    · omega
    · omega
  · exact h1
theorem ZdX.next {E:List Zt}{left on row:List Int} (hE:Zds E left.length) (f:ZdX E left on row) (c:Ze5 E left on):Ze5 E (ZM left row) (ZI left row):=by
  have hl:=Zb9 row left
  refine⟨fun x hx=>?_,fun n hn=>?_,fun i j n h1 h2 h3=>?_,fun n hn h0=>?_⟩
  · obtain⟨i,hi⟩:=List.getElem?_of_mem hx
    have e:=ZxR hi
    rw[← e,f.tick_lf c (by omega)]
    have:=ZsX c (i:Int)
    split
    · rename_i hm
      rcases f.row_in c _ hm with h2 | ⟨_,h2,_⟩
      · omega
      · omega
    · exact this
  · unfold ZI at hn
    obtain⟨k,hk,rfl⟩:=List.mem_map.1 hn
    by_cases h1:k = -1
    · rw[if_pos h1];exact .inl rfl
    · rw[if_neg h1]
      by_cases h2:lf (ZM left row) k=0
      · rw[if_pos h2];exact .inl rfl
      · rw[if_neg h2]
        rcases f.row_in c k hk with h3 | ⟨h3,h4,h5⟩
        · exact absurd h3 h1
        · refine .inr ⟨⟨h3.1,by rw[hl];exact h3.2⟩,?_,f.free hE c h5⟩
          rw[f.tick_lf c h3.1,if_pos hk] at h2 ⊢
          omega
  · have back:∀i:Nat,(ZI left row)[i]? = some n→row[i]? = some n:=fun i h=>by
      unfold ZI at h
      rw[List.getElem?_map] at h
      cases hr:row[i]? with
      | none=>rw[hr] at h;cases h
      | some k=>
        rw[hr] at h
        have h:(if k = -1 then (-1:Int) else if lf (ZM left row) k=0 then -1 else k)=n:=Option.some.inj h
        by_cases h1:k = -1
        · rw[if_pos h1] at h;exact absurd h.symm h3
        · rw[if_neg h1] at h
          by_cases h2:lf (ZM left row) k=0
          · rw[if_pos h2] at h;exact absurd h.symm h3
          · rw[if_neg h2] at h;rw[h]
    exact f.one i j n (back i h1) (back j h2) h3
  · have hn':isN left n:=⟨hn.1,by rw[← hl];exact hn.2⟩
    rw[f.tick_lf c hn.1] at h0
    by_cases hm:n∈row
    · rcases f.row_in c n hm with h2 | ⟨_,_,h2⟩
      · have:=hn.1;omega
      · exact f.free hE c h2
    · rw[if_neg hm] at h0
      exact f.free hE c (c.over n hn' h0)
inductive Sched (E:List Zt) (need:List Int) (m:Nat):List (List Int)→List Int→List Int→Prop
  | nil:Sched E need m [] need (List.replicate m (-1))
  | snoc {t:List (List Int)} {left on row:List Int}:Sched E need m t left on→(∃n,isN left n∧0<lf left n)→ZdX E left on row→Sched E need m (t++[row]) (ZM left row) (ZI left row)
theorem Zrt {E:List Zt}{need:List Int} (m:Nat) (h:∀x∈need,1≤x∧x≤1000):Ze5 E need (List.replicate m (-1)):=by
  refine⟨fun x hx=>by have:=h x hx;omega,fun n hn=>.inl (List.mem_replicate.1 hn).2,fun i j n h1 h2 h3=>?_,fun n hn h0=>?_⟩
  · have:=List.mem_of_getElem? h1
    exact absurd (List.mem_replicate.1 this).2 h3
  · have:=h _ (List.mem_of_getElem? (Zhb hn.1 hn.2))
    omega
theorem Sched.len {E:List Zt}{need:List Int}{m:Nat}{t:List (List Int)}{left on:List Int} (s:Sched E need m t left on):left.length=need.length∧on.length=m∧∀row∈t,row.length=m:=by
  induction s with
  | nil=>exact⟨rfl,by simp,fun _ h=>by cases h⟩
  | snoc _ _ f ih=>
    refine⟨by rw[Zb9];exact ih.1,by unfold ZI;rw[List.length_map,f.len];exact ih.2.1,fun r hr=>?_⟩
    rcases List.mem_append.1 hr with h | h
    · exact ih.2.2 r h
    · rw[List.mem_singleton] at h
      rw[h,f.len]
      exact ih.2.1
theorem Sched.crew {E:List Zt}{need:List Int}{m:Nat} (h:∀x∈need,1≤x∧x≤1000) (hE:Zds E need.length) {t:List (List Int)}{left on:List Int} (s:Sched E need m t left on):Ze5 E left on:=by
  induction s with
  | nil=>exact Zrt m h
  | snoc s _ f ih=>exact f.next (by rw[s.len.1];exact hE) ih
def Zdu (t:List (List Int)):Nat:=(t.map busy).sum
theorem Sched.sum {E:List Zt}{need:List Int}{m:Nat} (h:∀x∈need,1≤x∧x≤1000) (hE:Zds E need.length) {t:List (List Int)}{left on:List Int} (s:Sched E need m t left on):left.sum=need.sum-(Zdu t:Int):=by
  induction s with
  | nil=>simp[Zdu]
  | snoc s _ f ih=>
    rw[ZjE _ _ (f.nodes (s.crew h hE)),ih]
    unfold Zdu
    rw[List.map_append,List.sum_append]
    simp
    omega
def Zjo (row:List Int):Nat:=if -1∈row then 1 else 0
def ZiX (t:List (List Int)):Nat:=(t.map Zjo).sum
theorem Zkl (t:List (List Int)) (row:List Int):ZiX (t++[row])=ZiX t+Zjo row:=by
  unfold ZiX
  rw[List.map_append,List.sum_append]
  simp
structure Zxe (E:List Zt) (w:List Int) (F:Int→Int) (M:Int):Prop where
  edge:∀e∈E,F e.src+lf w e.dst≤F e.dst
  least:∀n,isN w n→lf w n≤F n
  most:∀n,isN w n→F n≤M
theorem ZvA {m:Nat}{row:List Int} (h:row.length=m):(m:Int)≤busy row+(m:Int)*(Zjo row:Int)∧(0<busy row→(m:Int)≤busy row+((m:Int)-1)*(Zjo row:Int)):=by
  have hb:busy row≤row.length:=List.countP_le_length
  unfold Zjo
  by_cases hi : -1∈row
  · rw[if_pos hi]
    simp only[Int.natCast_one,Int.mul_one]
    constructor
    · omega
    · intro h;omega
  · rw[if_neg hi]
    have:busy row=row.length:=by
      unfold busy
      rw[List.countP_eq_length]
      intro a ha
      have:a ≠ -1:=fun e=>hi (e ▸ ha)
      simpa using this
    simp only[Int.natCast_zero,Int.mul_zero]
    omega
theorem Sched.idle {E:List Zt}{need:List Int}{m:Nat} (h:∀x∈need,1≤x∧x≤1000) (hE:Zds E need.length) {w:List Int}{F:Int→Int}{M:Int} (W:Zxe E w F M) (hw:w.length=need.length) (hle:∀n,isN need n→lf need n≤lf w n)
    {t:List (List Int)} {left on:List Int} (s:Sched E need m t left on):∀n,isN left n→0<lf left n→Zh2 E left n→(ZiX t:Int)≤F n-lf left n:=by
  induction s with
  | nil=>
    intro n hn h0 hf
    have h1:=hle n hn
    have h2:=W.least n ⟨hn.1,by rw[hw];exact hn.2⟩
    simp[ZiX]
    omega
  | @snoc t left on row s hs f ih=>
    intro n hn h0 hf
    have c:=s.crew h hE
    have hl:=s.len.1
    have hE':Zds E left.length:=by rw[hl];exact hE
    have hn':isN left n:=⟨hn.1,by have:=hn.2;rw[Zb9] at this;exact this⟩
    rw[Zkl]
    have tl:=f.tick_lf c hn.1
    by_cases hfr:Zh2 E left n
    ·
      have hpos:0<lf left n:=by rw[tl] at h0;split at h0<;>omega
      have i1:=ih n hn' hpos hfr
      by_cases hm:n∈row
      · rw[tl,if_pos hm]
        unfold Zjo
        split<;>omega
      · have:¬(-1∈row):=fun hi=>f.all hi n ⟨hn',hpos,hm,hfr⟩
        rw[tl,if_neg hm]
        unfold Zjo
        rw[if_neg this]
        omega
    ·
      have:∃e∈E,e.dst=n∧lf left e.src≠0:=Classical.byContradiction fun hc=>hfr fun e he hd=>Classical.byContradiction fun hx=>hc ⟨e,he,hd,hx⟩
      obtain⟨e,he,hd,hx⟩:=this
      have h0':=hf e he hd
      have hsrc:=(hE' e he).1
      rw[f.tick_lf c hsrc.1] at h0'
      by_cases hm:e.src∈row
      · rw[if_pos hm] at h0'
        rcases f.row_in c _ hm with h2 | ⟨h2,h3,h4⟩
        · omega
        · have i1:=ih e.src h2 h3 h4
          have i2:=W.edge e he
          have i3:=hle n ⟨hn.1,by rw[← hl];exact hn'.2⟩
          rw[hd] at i2
          have i4:lf (ZM left row) n≤lf need n:=by
            have:∀{t:List (List Int)} {left on:List Int},Sched E need m t left on→lf left n≤lf need n:=fun s=>by
              induction s with
              | nil=>exact Int.le_refl _
              | snoc s _ f ih=>exact Int.le_trans (f.tick_le (s.crew h hE) hn.1) ih
            exact this (.snoc s hs f)
          unfold Zjo
          split<;>omega
      · rw[if_neg hm] at h0'
        exact absurd h0' hx
theorem Zxa {row:List Int} (h:0<busy row):∃n∈row,n ≠ -1:=by
  unfold busy at h
  obtain⟨n,h1,h2⟩:=List.countP_pos_iff.1 h
  exact⟨n,h1,by simpa using h2⟩
theorem Sched.bound {E:List Zt}{need:List Int}{m:Nat} (h:∀x∈need,1≤x∧x≤1000) (hE:Zds E need.length) {w:List Int}{F:Int→Int}{M:Int} (W:Zxe E w F M) (hw:w.length=need.length) (hle:∀n,isN need n→lf need n≤lf w n) (hM:0≤M) (hm:1≤m)
    (some_:∀{left on row:List Int},left.length=need.length→on.length=m→(∃n,isN left n∧0<lf left n)→Ze5 E left on→ZdX E left on row→0<busy row)
    {t:List (List Int)} {left on:List Int} (s:Sched E need m t left on):(ZiX t:Int)≤M∧(m:Int)*t.length≤(need.sum-left.sum)+((m:Int)-1)*ZiX t:=by
  induction s with
  | nil=>simp[ZiX];omega
  | @snoc t left on row s hs f ih=>
    have c:=s.crew h hE
    have hl:=s.len.1
    have hb:=some_ hl s.len.2.1 hs c f
    have hr:=f.nodes c
    constructor
    · obtain⟨n,hn,hne⟩:=Zxa hb
      rcases f.row_in c n hn with h1 | ⟨h1,h2,h3⟩
      · exact absurd h1 hne
      · have i1:=s.idle h hE W hw hle n h1 h2 h3
        have i2:=W.most n ⟨h1.1,by rw[hw,← hl];exact h1.2⟩
        rw[Zkl]
        unfold Zjo
        split<;>omega
    · have b:=(ZvA (m:=m) (by rw[f.len];exact s.len.2.1)).2 hb
      rw[ZjE row left hr,Zkl,List.length_append,List.length_singleton]
      have ih2:=ih.2
      have e1:(m:Int)*((t.length+1:Nat):Int)=(m:Int)*t.length+m:=by rw[Int.natCast_add];simp[Int.mul_add]
      have e2:((m:Int)-1)*((ZiX t+Zjo row:Nat):Int)=((m:Int)-1)*ZiX t+((m:Int)-1)*Zjo row:=by rw[Int.natCast_add,Int.mul_add]
      rw[e1,e2]
      omega
noncomputable section
abbrev zL (t:Bool) (l:List Int):D:=.list t (List.map Za l)
structure Zi where
 work:(List Int)
 edges:(List Zt)
 deriving DecidableEq
abbrev ZDC (x:Zi):D:=(D.agg [(D.list true (List.map Za x.work)),(D.list true (List.map Zs x.edges))])
structure ZD where
 on:(List Int)
 left:(List Int)
 deriving DecidableEq
structure Zb where
 ring:(List Int)
 top:Int
 bottom:Int
 deriving DecidableEq
abbrev Zy (x:Zb):D:=(D.agg [(D.list true (List.map Za x.ring)),(Za x.top),(Za x.bottom)])
structure Zh where
 steal:Bool
 at_:Int
 top:Int
 bottom:Int
 got:Int
 end_:Int
 deriving DecidableEq
abbrev Zz (x:Zh):D:=(D.agg [(D.bool x.steal),(Za x.at_),(Za x.top),(Za x.bottom),(Za x.got),(Za x.end_)])
structure ZP where
 crew:ZD
 deques:(List Zb)
 takers:(List Zh)
 from_:(List Int)
 deriving DecidableEq
structure ZbJ where
 stealing:Bool
 demand:(List Int)
 state:Int
 gang:ZP
 deriving DecidableEq
structure Zbd where
 on:(List Int)
 done:(List Int)
 steps:Int
 deriving DecidableEq
structure ZiM where
 deriving DecidableEq
structure ZoI where
 deriving DecidableEq
structure Zae where
 a0:Int
 a1:Int
 deriving DecidableEq
abbrev Zdx (x:Zae):D:=(D.agg [(Za x.a0),(Za x.a1)])
def Zdl:Option Bool:=some true
def ZgI (a:Zi):Option Bool:=
 bif (decide ((a.work.length:Int)≤70)) then
  bif (decide ((a.edges.length:Int)≤300)) then
   some true
  else
   some false
 else
  some false
def ZcW (a:Zi):Option Unit:=
 bif (Nat.ble (List.length a.work) lim) then
  bif (Nat.ble (List.length a.edges) lim) then
   some ()
  else
   none
 else
  none
def ZdM (a:List Int):Option Unit:=
 bif (Nat.ble (List.length a) lim) then
  some ()
 else
  none
def ZbA (a:Int):Option Bool:=
 bif (decide (a<0)) then
  some true
 else
  bif (decide (1000<a)) then
   some true
  else
   some false
def Zv (a:List Int) (b:(Int→Option Bool)) (s0:Int):Option (Int⊕(Int⊕Unit)):=
 bif (decide (s0<(a.length:Int))) then
  (ZK a s0).bind fun x1=>
  (b x1).bind fun x2=>
  bif x2 then
   some (.inr (.inl s0))
  else
   some (.inl (w64 (s0+1)))
 else
  some (.inr (.inr ()))
def ZB (a:List Int) (b:(Int→Option Bool)):Option Int:=
 (lp (Zv a b) 0).bind fun r3=>
 match r3 with
 | (.inl r3)=>
  some r3
 | (.inr r3)=>
  some (-1)
def Zw (a:List Int) (b:(Int→Option Bool)):Option Bool:=
 (ZB a b).bind fun x0=>
 bif (decide (0≤x0)) then
  some true
 else
  some false
def Zd5 (a:Int) (b0:List Int):Option Bool:=
 bif (decide (0≤a)) then
  bif (decide (a<(b0.length:Int))) then
   some true
  else
   some false
 else
  some false
def Zan (a:List Zt) (b:Zt) (s0:Int):Option (Int⊕(Int⊕Unit)):=
 bif (decide (s0<(a.length:Int))) then
  (ZK a s0).bind fun x1=>
  bif ((b.src==x1.src)&&((b.dst==x1.dst)&&true)) then
   some (.inr (.inl s0))
  else
   some (.inl (w64 (s0+1)))
 else
  some (.inr (.inr ()))
def ZbE (a:List Zt) (b:Zt):Option Int:=
 (lp (Zan a b) 0).bind fun r2=>
 match r2 with
 | (.inl r2)=>
  some r2
 | (.inr r2)=>
  some (-1)
def Zaq (a:List Zt) (b:Zt):Option Bool:=
 (ZbE a b).bind fun x0=>
 bif (decide (0≤x0)) then
  some true
 else
  some false
def ZdI (a:Zi) (s0:(List Int)×(List Bool)) (s1:Int) (s3:Int):Option (Int⊕(Unit⊕Unit)):=
 bif (decide (s3<(a.edges.length:Int))) then
  (ZK a.edges s3).bind fun x4=>
  bif (x4.dst==s1) then
   (ZK s0.2 x4.src).bind fun x5=>
   bif x5 then
    some (.inl (w64 (s3+1)))
   else
    some (.inr (.inl ()))
  else
   some (.inl (w64 (s3+1)))
 else
  some (.inr (.inr ()))
def ZcA (a:Zi) (s0:(List Int)×(List Bool)) (s1:Int):Option (Int⊕(((List Int)×(List Bool))⊕Unit)):=
 bif (decide (s1<(a.work.length:Int))) then
  (ZK s0.2 s1).bind fun x2=>
  bif x2 then
   some (.inl (w64 (s1+1)))
  else
   (lp (ZdI a s0 s1) 0).bind fun r6=>
   match r6 with
   | (.inl r6)=>
    some (.inl (w64 (s1+1)))
   | (.inr r6)=>
    bif (Nat.ble (List.length s0.1+1) lim) then
     some (.inr (.inl ((s0.1++[s1]),(List.set s0.2 s1.toNat true))))
    else
     none
 else
  some (.inr (.inr ()))
def ZdJ (a:Zi) (s0:(List Int)×(List Bool)):Option (((List Int)×(List Bool))⊕((List Int)⊕(List Int))):=
 bif (decide ((s0.1.length:Int)<(a.work.length:Int))) then
  (lp (ZcA a s0) 0).bind fun r7=>
  match r7 with
  | (.inl r7)=>
   some (.inl (r7.1,r7.2))
  | (.inr r7)=>
   some (.inr (.inl s0.1))
 else
  some (.inr (.inr s0.1))
def Zdy (a:Zi):Option ((List Int)×Bool):=
 bif (decide (0≤(a.work.length:Int))&&decide ((a.work.length:Int)≤lim)&&decide ((a.work.length:Int)==(a.work.length:Int))) then
  (lp (ZdJ a) (([]:List Int),(List.replicate (a.work.length:Int).toNat (false:Bool)))).bind fun r8=>
  match r8 with
  | (.inl r8)=>
   some (([]:List Int),false)
  | (.inr r8)=>
   some (r8,true)
 else
  none
def ZcQ (a:Zi) (s1:Int):Option (Int⊕(Unit⊕Unit)):=
 bif (decide (s1<(a.edges.length:Int))) then
  (ZK a.edges s1).bind fun x2=>
  (Zd5 x2.src a.work).bind fun x3=>
  bif x3 then
   (Zd5 x2.dst a.work).bind fun x4=>
   bif x4 then
    bif (x2.src==x2.dst) then
     some (.inr (.inl ()))
    else
     bif (decide (0≤s1)) then
      bif (Nat.ble s1.toNat (List.length a.edges)) then
       (Zaq (List.take s1.toNat a.edges) x2).bind fun x5=>
       bif x5 then
        some (.inr (.inl ()))
       else
        some (.inl (w64 (s1+1)))
      else
       none
     else
      none
   else
    some (.inr (.inl ()))
  else
   some (.inr (.inl ()))
 else
  some (.inr (.inr ()))
def Zbz (a:Zi):Option Int:=
 bif (decide (64<(a.work.length:Int))) then
  some 40
 else
  bif (decide (256<(a.edges.length:Int))) then
   some 40
  else
   (Zw a.work (fun z0=>ZbA z0)).bind fun x0=>
   bif x0 then
    some 41
   else
    (lp (ZcQ a) 0).bind fun r6=>
    match r6 with
    | (.inl r6)=>
     some 42
    | (.inr r6)=>
     (Zdy a).bind fun x7=>
     bif x7.2 then
      some 0
     else
      some 43
def Za3 (a:Int):Option Bool:=
 bif (decide (a<1)) then
  some true
 else
  bif (decide (1000<a)) then
   some true
  else
   some false
def Zf1 (a:Zi) (b:List Int):Option Bool:=
 bif ((b.length:Int)==(a.work.length:Int)) then
  (Zw b (fun z0=>Za3 z0)).bind fun x0=>
  bif x0 then
   some false
  else
   (Zw a.work (fun z0=>Za3 z0)).bind fun x1=>
   bif x1 then
    some false
   else
    some true
 else
  some false
def ZdO (a:Bool):Option (Unit⊕Unit):=
 bif a then
  some (.inl ())
 else
  some (.inr ())
def ZbF (a:Int):Option Bool:=
 bif (decide (a<0)) then
  some true
 else
  bif (decide (1000<a)) then
   some true
  else
   some false
def ZcU (a:ZD) (b:Int):Option Bool:=
 (ZK a.left b).bind fun x0=>
 bif (x0==0) then
  some true
 else
  some false
def ZaE (a:List Int) (b:Int) (s0:Int):Option (Int⊕(Int⊕Unit)):=
 bif (decide (s0<(a.length:Int))) then
  (ZK a s0).bind fun x1=>
  bif (b==x1) then
   some (.inr (.inl s0))
  else
   some (.inl (w64 (s0+1)))
 else
  some (.inr (.inr ()))
def Zcr (a:List Int) (b:Int):Option Int:=
 (lp (ZaE a b) 0).bind fun r2=>
 match r2 with
 | (.inl r2)=>
  some r2
 | (.inr r2)=>
  some (-1)
def ZG (a:List Int) (b:Int):Option Bool:=
 (Zcr a b).bind fun x0=>
 bif (decide (0≤x0)) then
  some true
 else
  some false
def Zdi (a:Zt) (b0:Int) (c0:List Int) (c1:List Int):Option Bool:=
 bif (a.dst==b0) then
  (ZcU (ZD.mk c0 c1) a.src).bind fun x0=>
  bif x0 then
   some false
  else
   some true
 else
  some false
def ZX (a:List Zt) (b:(Zt→Option Bool)) (s0:Int):Option (Int⊕(Int⊕Unit)):=
 bif (decide (s0<(a.length:Int))) then
  (ZK a s0).bind fun x1=>
  (b x1).bind fun x2=>
  bif x2 then
   some (.inr (.inl s0))
  else
   some (.inl (w64 (s0+1)))
 else
  some (.inr (.inr ()))
def Zai (a:List Zt) (b:(Zt→Option Bool)):Option Int:=
 (lp (ZX a b) 0).bind fun r3=>
 match r3 with
 | (.inl r3)=>
  some r3
 | (.inr r3)=>
  some (-1)
def ZO (a:List Zt) (b:(Zt→Option Bool)):Option Bool:=
 (Zai a b).bind fun x0=>
 bif (decide (0≤x0)) then
  some true
 else
  some false
def Zep (a:Zi) (b:ZD) (c:Int):Option Bool:=
 (ZO a.edges (fun z0=>Zdi z0 c b.on b.left)).bind fun x0=>
 bif x0 then
  some false
 else
  some true
def Zdc (a:Zi) (b:ZD) (s1:Int):Option (Int⊕(Unit⊕Unit)):=
 bif (decide (s1<(b.on.length:Int))) then
  (ZK b.on s1).bind fun x2=>
  bif (x2==(-1)) then
   some (.inl (w64 (s1+1)))
  else
   bif (decide (x2<0)) then
    some (.inr (.inl ()))
   else
    bif (decide ((b.left.length:Int)≤x2)) then
     some (.inr (.inl ()))
    else
     (ZcU b x2).bind fun x3=>
     bif x3 then
      some (.inr (.inl ()))
     else
      bif (decide (0≤s1)) then
       bif (Nat.ble s1.toNat (List.length b.on)) then
        (ZG (List.take s1.toNat b.on) x2).bind fun x4=>
        bif x4 then
         some (.inr (.inl ()))
        else
         (Zep a b x2).bind fun x5=>
         bif x5 then
          some (.inl (w64 (s1+1)))
         else
          some (.inr (.inl ()))
       else
        none
      else
       none
 else
  some (.inr (.inr ()))
def Zdd (a:Zi) (b:ZD) (s7:Int):Option (Int⊕(Unit⊕Unit)):=
 bif (decide (s7<(b.left.length:Int))) then
  (ZcU b s7).bind fun x8=>
  bif x8 then
   (Zep a b s7).bind fun x9=>
   bif x9 then
    some (.inl (w64 (s7+1)))
   else
    some (.inr (.inl ()))
  else
   some (.inl (w64 (s7+1)))
 else
  some (.inr (.inr ()))
def ZfX (a:Zi) (b:ZD):Option Bool:=
 bif (decide ((b.on.length:Int)<1)) then
  some false
 else
  bif (decide (8<(b.on.length:Int))) then
   some false
  else
   bif ((b.left.length:Int) != (a.work.length:Int)) then
    some false
   else
    (Zw b.left (fun z0=>ZbF z0)).bind fun x0=>
    bif x0 then
     some false
    else
     (lp (Zdc a b) 0).bind fun r6=>
     match r6 with
     | (.inl r6)=>
      some false
     | (.inr r6)=>
      (lp (Zdd a b) 0).bind fun r10=>
      match r10 with
      | (.inl r10)=>
       some false
      | (.inr r10)=>
       some true
def Zc6 (a:Zi) (b:ZD):Option Int:=
 (Zbz a).bind fun x0=>
 bif (x0==0) then
  (ZfX a b).bind fun x1=>
  bif x1 then
   some x0
  else
   some 110
 else
  some x0
def Zfi (a:Int):Option Int:=
 bif (decide (a<0)) then
  some 10
 else
  bif (decide (1099511627775<a)) then
   some 11
  else
   some 0
def Zbc (a:Int):Option Int:=
 some (i64.wrap (Zze (w64 (u64.wrap ((u64.wrap ((u64.wrap ((u64.wrap (Zg (u64.wrap ((Int.fdiv (u64.wrap ((u64.wrap (Zg (Int.fdiv (u64.wrap ((u64.wrap (Zg (Int.fdiv a (2 ^ 1)) &&& Zg 6148914691236517205).toNat)+(u64.wrap (Zg a &&& Zg 6148914691236517205).toNat))) (2 ^ 2)) &&& Zg 3689348814741910323).toNat)+(u64.wrap (Zg (u64.wrap ((u64.wrap (Zg (Int.fdiv a (2 ^ 1)) &&& Zg 6148914691236517205).toNat)+(u64.wrap (Zg a &&& Zg 6148914691236517205).toNat))) &&& Zg 3689348814741910323).toNat))) (2 ^ 4))+(u64.wrap ((u64.wrap (Zg (Int.fdiv (u64.wrap ((u64.wrap (Zg (Int.fdiv a (2 ^ 1)) &&& Zg 6148914691236517205).toNat)+(u64.wrap (Zg a &&& Zg 6148914691236517205).toNat))) (2 ^ 2)) &&& Zg 3689348814741910323).toNat)+(u64.wrap (Zg (u64.wrap ((u64.wrap (Zg (Int.fdiv a (2 ^ 1)) &&& Zg 6148914691236517205).toNat)+(u64.wrap (Zg a &&& Zg 6148914691236517205).toNat))) &&& Zg 3689348814741910323).toNat))))) &&& Zg 1085102592571150095).toNat)+(Int.fdiv (u64.wrap (Zg (u64.wrap ((Int.fdiv (u64.wrap ((u64.wrap (Zg (Int.fdiv (u64.wrap ((u64.wrap (Zg (Int.fdiv a (2 ^ 1)) &&& Zg 6148914691236517205).toNat)+(u64.wrap (Zg a &&& Zg 6148914691236517205).toNat))) (2 ^ 2)) &&& Zg 3689348814741910323).toNat)+(u64.wrap (Zg (u64.wrap ((u64.wrap (Zg (Int.fdiv a (2 ^ 1)) &&& Zg 6148914691236517205).toNat)+(u64.wrap (Zg a &&& Zg 6148914691236517205).toNat))) &&& Zg 3689348814741910323).toNat))) (2 ^ 4))+(u64.wrap ((u64.wrap (Zg (Int.fdiv (u64.wrap ((u64.wrap (Zg (Int.fdiv a (2 ^ 1)) &&& Zg 6148914691236517205).toNat)+(u64.wrap (Zg a &&& Zg 6148914691236517205).toNat))) (2 ^ 2)) &&& Zg 3689348814741910323).toNat)+(u64.wrap (Zg (u64.wrap ((u64.wrap (Zg (Int.fdiv a (2 ^ 1)) &&& Zg 6148914691236517205).toNat)+(u64.wrap (Zg a &&& Zg 6148914691236517205).toNat))) &&& Zg 3689348814741910323).toNat))))) &&& Zg 1085102592571150095).toNat) (2 ^ 8))))+(Int.fdiv (u64.wrap ((u64.wrap (Zg (u64.wrap ((Int.fdiv (u64.wrap ((u64.wrap (Zg (Int.fdiv (u64.wrap ((u64.wrap (Zg (Int.fdiv a (2 ^ 1)) &&& Zg 6148914691236517205).toNat)+(u64.wrap (Zg a &&& Zg 6148914691236517205).toNat))) (2 ^ 2)) &&& Zg 3689348814741910323).toNat)+(u64.wrap (Zg (u64.wrap ((u64.wrap (Zg (Int.fdiv a (2 ^ 1)) &&& Zg 6148914691236517205).toNat)+(u64.wrap (Zg a &&& Zg 6148914691236517205).toNat))) &&& Zg 3689348814741910323).toNat))) (2 ^ 4))+(u64.wrap ((u64.wrap (Zg (Int.fdiv (u64.wrap ((u64.wrap (Zg (Int.fdiv a (2 ^ 1)) &&& Zg 6148914691236517205).toNat)+(u64.wrap (Zg a &&& Zg 6148914691236517205).toNat))) (2 ^ 2)) &&& Zg 3689348814741910323).toNat)+(u64.wrap (Zg (u64.wrap ((u64.wrap (Zg (Int.fdiv a (2 ^ 1)) &&& Zg 6148914691236517205).toNat)+(u64.wrap (Zg a &&& Zg 6148914691236517205).toNat))) &&& Zg 3689348814741910323).toNat))))) &&& Zg 1085102592571150095).toNat)+(Int.fdiv (u64.wrap (Zg (u64.wrap ((Int.fdiv (u64.wrap ((u64.wrap (Zg (Int.fdiv (u64.wrap ((u64.wrap (Zg (Int.fdiv a (2 ^ 1)) &&& Zg 6148914691236517205).toNat)+(u64.wrap (Zg a &&& Zg 6148914691236517205).toNat))) (2 ^ 2)) &&& Zg 3689348814741910323).toNat)+(u64.wrap (Zg (u64.wrap ((u64.wrap (Zg (Int.fdiv a (2 ^ 1)) &&& Zg 6148914691236517205).toNat)+(u64.wrap (Zg a &&& Zg 6148914691236517205).toNat))) &&& Zg 3689348814741910323).toNat))) (2 ^ 4))+(u64.wrap ((u64.wrap (Zg (Int.fdiv (u64.wrap ((u64.wrap (Zg (Int.fdiv a (2 ^ 1)) &&& Zg 6148914691236517205).toNat)+(u64.wrap (Zg a &&& Zg 6148914691236517205).toNat))) (2 ^ 2)) &&& Zg 3689348814741910323).toNat)+(u64.wrap (Zg (u64.wrap ((u64.wrap (Zg (Int.fdiv a (2 ^ 1)) &&& Zg 6148914691236517205).toNat)+(u64.wrap (Zg a &&& Zg 6148914691236517205).toNat))) &&& Zg 3689348814741910323).toNat))))) &&& Zg 1085102592571150095).toNat) (2 ^ 8)))) (2 ^ 16))))+(Int.fdiv (u64.wrap ((u64.wrap ((u64.wrap (Zg (u64.wrap ((Int.fdiv (u64.wrap ((u64.wrap (Zg (Int.fdiv (u64.wrap ((u64.wrap (Zg (Int.fdiv a (2 ^ 1)) &&& Zg 6148914691236517205).toNat)+(u64.wrap (Zg a &&& Zg 6148914691236517205).toNat))) (2 ^ 2)) &&& Zg 3689348814741910323).toNat)+(u64.wrap (Zg (u64.wrap ((u64.wrap (Zg (Int.fdiv a (2 ^ 1)) &&& Zg 6148914691236517205).toNat)+(u64.wrap (Zg a &&& Zg 6148914691236517205).toNat))) &&& Zg 3689348814741910323).toNat))) (2 ^ 4))+(u64.wrap ((u64.wrap (Zg (Int.fdiv (u64.wrap ((u64.wrap (Zg (Int.fdiv a (2 ^ 1)) &&& Zg 6148914691236517205).toNat)+(u64.wrap (Zg a &&& Zg 6148914691236517205).toNat))) (2 ^ 2)) &&& Zg 3689348814741910323).toNat)+(u64.wrap (Zg (u64.wrap ((u64.wrap (Zg (Int.fdiv a (2 ^ 1)) &&& Zg 6148914691236517205).toNat)+(u64.wrap (Zg a &&& Zg 6148914691236517205).toNat))) &&& Zg 3689348814741910323).toNat))))) &&& Zg 1085102592571150095).toNat)+(Int.fdiv (u64.wrap (Zg (u64.wrap ((Int.fdiv (u64.wrap ((u64.wrap (Zg (Int.fdiv (u64.wrap ((u64.wrap (Zg (Int.fdiv a (2 ^ 1)) &&& Zg 6148914691236517205).toNat)+(u64.wrap (Zg a &&& Zg 6148914691236517205).toNat))) (2 ^ 2)) &&& Zg 3689348814741910323).toNat)+(u64.wrap (Zg (u64.wrap ((u64.wrap (Zg (Int.fdiv a (2 ^ 1)) &&& Zg 6148914691236517205).toNat)+(u64.wrap (Zg a &&& Zg 6148914691236517205).toNat))) &&& Zg 3689348814741910323).toNat))) (2 ^ 4))+(u64.wrap ((u64.wrap (Zg (Int.fdiv (u64.wrap ((u64.wrap (Zg (Int.fdiv a (2 ^ 1)) &&& Zg 6148914691236517205).toNat)+(u64.wrap (Zg a &&& Zg 6148914691236517205).toNat))) (2 ^ 2)) &&& Zg 3689348814741910323).toNat)+(u64.wrap (Zg (u64.wrap ((u64.wrap (Zg (Int.fdiv a (2 ^ 1)) &&& Zg 6148914691236517205).toNat)+(u64.wrap (Zg a &&& Zg 6148914691236517205).toNat))) &&& Zg 3689348814741910323).toNat))))) &&& Zg 1085102592571150095).toNat) (2 ^ 8))))+(Int.fdiv (u64.wrap ((u64.wrap (Zg (u64.wrap ((Int.fdiv (u64.wrap ((u64.wrap (Zg (Int.fdiv (u64.wrap ((u64.wrap (Zg (Int.fdiv a (2 ^ 1)) &&& Zg 6148914691236517205).toNat)+(u64.wrap (Zg a &&& Zg 6148914691236517205).toNat))) (2 ^ 2)) &&& Zg 3689348814741910323).toNat)+(u64.wrap (Zg (u64.wrap ((u64.wrap (Zg (Int.fdiv a (2 ^ 1)) &&& Zg 6148914691236517205).toNat)+(u64.wrap (Zg a &&& Zg 6148914691236517205).toNat))) &&& Zg 3689348814741910323).toNat))) (2 ^ 4))+(u64.wrap ((u64.wrap (Zg (Int.fdiv (u64.wrap ((u64.wrap (Zg (Int.fdiv a (2 ^ 1)) &&& Zg 6148914691236517205).toNat)+(u64.wrap (Zg a &&& Zg 6148914691236517205).toNat))) (2 ^ 2)) &&& Zg 3689348814741910323).toNat)+(u64.wrap (Zg (u64.wrap ((u64.wrap (Zg (Int.fdiv a (2 ^ 1)) &&& Zg 6148914691236517205).toNat)+(u64.wrap (Zg a &&& Zg 6148914691236517205).toNat))) &&& Zg 3689348814741910323).toNat))))) &&& Zg 1085102592571150095).toNat)+(Int.fdiv (u64.wrap (Zg (u64.wrap ((Int.fdiv (u64.wrap ((u64.wrap (Zg (Int.fdiv (u64.wrap ((u64.wrap (Zg (Int.fdiv a (2 ^ 1)) &&& Zg 6148914691236517205).toNat)+(u64.wrap (Zg a &&& Zg 6148914691236517205).toNat))) (2 ^ 2)) &&& Zg 3689348814741910323).toNat)+(u64.wrap (Zg (u64.wrap ((u64.wrap (Zg (Int.fdiv a (2 ^ 1)) &&& Zg 6148914691236517205).toNat)+(u64.wrap (Zg a &&& Zg 6148914691236517205).toNat))) &&& Zg 3689348814741910323).toNat))) (2 ^ 4))+(u64.wrap ((u64.wrap (Zg (Int.fdiv (u64.wrap ((u64.wrap (Zg (Int.fdiv a (2 ^ 1)) &&& Zg 6148914691236517205).toNat)+(u64.wrap (Zg a &&& Zg 6148914691236517205).toNat))) (2 ^ 2)) &&& Zg 3689348814741910323).toNat)+(u64.wrap (Zg (u64.wrap ((u64.wrap (Zg (Int.fdiv a (2 ^ 1)) &&& Zg 6148914691236517205).toNat)+(u64.wrap (Zg a &&& Zg 6148914691236517205).toNat))) &&& Zg 3689348814741910323).toNat))))) &&& Zg 1085102592571150095).toNat) (2 ^ 8)))) (2 ^ 16)))) (2 ^ 32))))) &&& Zze 127).toNat)
def ZbP (a:Int):Option Int:=
 (Zbc a).bind fun x0=>
 some x0
def Zbq (a:Int):Option Unit:=
 bif (a==0) then
  some ()
 else
  some ()
def ZaL (a:Int):Option Unit:=
 (Zbq a).bind fun x0=>
 some ()
def Zf6 (a:Int):Option (Unit⊕Unit):=
 (Zfi a).bind fun x0=>
 bif (x0 != 0) then
  some (.inl ())
 else
  (ZbP (u64.wrap a)).bind fun x1=>
  bif (x1 != 1) then
   some (.inl ())
  else
   (ZaL (u64.wrap a)).bind fun x2=>
   some (.inr ())
def Zbx (a:Zb):Option Int:=
 (Zf6 (a.ring.length:Int)).bind fun x0=>
 match x0 with
 | (.inl x0)=>
  some 120
 | (.inr x0)=>
  bif (decide (64<(a.ring.length:Int))) then
   some 120
  else
   (Zfi a.top).bind fun x1=>
   bif (x1 != 0) then
    some 120
   else
    bif (decide (a.bottom<(w64 (a.top-1)))) then
     some 120
    else
     bif (decide ((w64 (a.top+(a.ring.length:Int)))<a.bottom)) then
      some 120
     else
      some 0
def ZcD (a:ZP) (s0:Int):Option (Int⊕(Unit⊕Unit)):=
 bif (decide (s0<(a.deques.length:Int))) then
  (ZK a.deques s0).bind fun x1=>
  (ZK a.takers s0).bind fun x2=>
  (ZK a.from_ s0).bind fun x3=>
  (Zbx x1).bind fun x4=>
  bif (x4 != 0) then
   some (.inr (.inl ()))
  else
   bif ((x1.ring.length:Int) != 64) then
    some (.inr (.inl ()))
   else
    bif (x2.end_ != 0) then
     some (.inr (.inl ()))
    else
     bif (decide (x3<0)) then
      some (.inr (.inl ()))
     else
      bif (decide ((a.crew.on.length:Int)≤x3)) then
       some (.inr (.inl ()))
      else
       bif x2.steal then
        bif (x3 != 0) then
         (ZK a.crew.on s0).bind fun x5=>
         bif (x5 != (-1)) then
          bif (!((x2.steal==false)&&((x2.at_==0)&&((x2.top==0)&&((x2.bottom==0)&&((x2.got==0)&&((x2.end_==0)&&true))))))) then
           some (.inr (.inl ()))
          else
           bif (x3 != 0) then
            some (.inr (.inl ()))
           else
            some (.inl (w64 (s0+1)))
         else
          some (.inl (w64 (s0+1)))
        else
         some (.inr (.inl ()))
       else
        bif (x3 != 0) then
         some (.inr (.inl ()))
        else
         (ZK a.crew.on s0).bind fun x6=>
         bif (x6 != (-1)) then
          bif (!((x2.steal==false)&&((x2.at_==0)&&((x2.top==0)&&((x2.bottom==0)&&((x2.got==0)&&((x2.end_==0)&&true))))))) then
           some (.inr (.inl ()))
          else
           bif (x3 != 0) then
            some (.inr (.inl ()))
           else
            some (.inl (w64 (s0+1)))
         else
          some (.inl (w64 (s0+1)))
 else
  some (.inr (.inr ()))
def Zfa (a:ZP):Option Bool:=
 bif ((a.deques.length:Int) != (a.crew.on.length:Int)) then
  some false
 else
  bif ((a.takers.length:Int) != (a.crew.on.length:Int)) then
   some false
  else
   bif ((a.from_.length:Int) != (a.crew.on.length:Int)) then
    some false
   else
    (lp (ZcD a) 0).bind fun r7=>
    match r7 with
    | (.inl r7)=>
     some false
    | (.inr r7)=>
     some true
def Zd9 (a:Zi) (b:ZP):Option Int:=
 (Zc6 a b.crew).bind fun x0=>
 bif (x0==0) then
  (Zfa b).bind fun x1=>
  bif x1 then
   some x0
  else
   some 130
 else
  some x0
def ZcC (a:Zi) (b:List Int) (s0:Int×(List Int)):Option ((Int×(List Int))⊕(List Int)):=
 bif (decide (s0.1<(a.work.length:Int))) then
  (ZK a.work s0.1).bind fun x1=>
  (ZK b s0.1).bind fun x2=>
  bif (Nat.ble (List.length s0.2+1) lim) then
   some (.inl ((w64 (s0.1+1)),(s0.2++[(bif decide (x1<x2) then x1 else x2)])))
  else
   none
 else
  some (.inr s0.2)
def Zfl (a:Zi) (b:List Int):Option (List Int):=
 (lp (ZcC a b) (0,([]:List Int))).bind fun r3=>
 some r3
def ZaI (a:Zi) (b:List Int) (c:List Int) (s0:Int×Int):Option ((Int×Int)⊕(Int⊕Int)):=
 bif (decide (s0.2<(c.length:Int))) then
  (ZK c s0.2).bind fun x1=>
  bif (decide (0<x1)) then
   bif (s0.1==2) then
    some (.inl (1,(w64 (s0.2+1))))
   else
    bif (x1==0) then
     (ZK b s0.2).bind fun x2=>
     (ZK a.work s0.2).bind fun x3=>
     bif (decide (x3<x2)) then
      some (.inr (.inl s0.1))
     else
      some (.inl (s0.1,(w64 (s0.2+1))))
    else
     some (.inl (s0.1,(w64 (s0.2+1))))
  else
   bif (x1==0) then
    (ZK b s0.2).bind fun x4=>
    (ZK a.work s0.2).bind fun x5=>
    bif (decide (x5<x4)) then
     some (.inr (.inl s0.1))
    else
     some (.inl (s0.1,(w64 (s0.2+1))))
   else
    some (.inl (s0.1,(w64 (s0.2+1))))
 else
  some (.inr (.inr s0.1))
def Zbs (a:Zi) (b:List Int) (c:List Int):Option Int:=
 (lp (ZaI a b c) (2,0)).bind fun r6=>
 match r6 with
 | (.inl r6)=>
  some 3
 | (.inr r6)=>
  some r6
def Zl (a:List Int):Option Unit:=
 bif (Nat.ble (List.length a) lim) then
  some ()
 else
  none
def Zaw (a:List Zh):Option Unit:=
 bif (Nat.blt 0 (List.length a)) then
  bif (Nat.ble (List.length a) lim) then
   some ()
  else
   none
 else
  none
def Zat (a:List Zb):Option Unit:=
 bif (Nat.blt 0 (List.length a)) then
  bif (Nat.ble (List.length a) lim) then
   some ()
  else
   none
 else
  none
def ZcM (a:ZP) (s5:Int×(List Zb)):Option ((Int×(List Zb))⊕(List Zb)):=
 bif (decide (s5.1<(a.deques.length:Int))) then
  (ZK s5.2 s5.1).bind fun x6=>
  (Zl x6.ring).bind fun x7=>
  some (.inl ((w64 (s5.1+1)),(List.set s5.2 s5.1.toNat x6)))
 else
  some (.inr s5.2)
def Zfn (a:ZP):Option (List Zb):=
 (Zl a.crew.on).bind fun x0=>
 (Zl a.crew.left).bind fun x1=>
 (Zaw a.takers).bind fun x2=>
 (Zl a.from_).bind fun x3=>
 (Zat a.deques).bind fun x4=>
 (lp (ZcM a) (0,a.deques)).bind fun r8=>
 some r8
def Zag (a:Zb):Option Bool:=
 bif (decide (a.top<a.bottom)) then
  some true
 else
  some false
def Z7 (a:List Zb) (b:(Zb→Option Bool)) (s0:Int):Option (Int⊕(Int⊕Unit)):=
 bif (decide (s0<(a.length:Int))) then
  (ZK a s0).bind fun x1=>
  (b x1).bind fun x2=>
  bif x2 then
   some (.inr (.inl s0))
  else
   some (.inl (w64 (s0+1)))
 else
  some (.inr (.inr ()))
def ZaF (a:List Zb) (b:(Zb→Option Bool)):Option Int:=
 (lp (Z7 a b) 0).bind fun r3=>
 match r3 with
 | (.inl r3)=>
  some r3
 | (.inr r3)=>
  some (-1)
def Z5 (a:List Zb) (b:(Zb→Option Bool)):Option Bool:=
 (ZaF a b).bind fun x0=>
 bif (decide (0≤x0)) then
  some true
 else
  some false
def ZaO (a0:List Int) (s1:Int×(List Int)):Option ((Int×(List Int))⊕(List Int)):=
 bif (decide (s1.1<(a0.length:Int))) then
  (ZK a0 s1.1).bind fun x2=>
  bif (x2==(-1)) then
   bif (Nat.ble (List.length s1.2+1) lim) then
    some (.inl ((w64 (s1.1+1)),(s1.2++[s1.1])))
   else
    none
  else
   some (.inl ((w64 (s1.1+1)),s1.2))
 else
  some (.inr s1.2)
def ZaD (a0:List Int) (a3:List Zh) (s4:Int×(List Int)):Option ((Int×(List Int))⊕(List Int)):=
 bif (decide (s4.1<(a0.length:Int))) then
  (ZK a0 s4.1).bind fun x5=>
  bif (x5==(-1)) then
   (ZK a3 s4.1).bind fun x6=>
   bif (x6.at_ != 0) then
    bif (Nat.ble (List.length s4.2+1) lim) then
     some (.inl ((w64 (s4.1+1)),(s4.2++[s4.1])))
    else
     none
   else
    some (.inl ((w64 (s4.1+1)),s4.2))
  else
   some (.inl ((w64 (s4.1+1)),s4.2))
 else
  some (.inr s4.2)
def ZbG (a0:List Int) (a2:List Zb) (a3:List Zh):Option (List Int):=
 (Z5 a2 (fun z0=>Zag z0)).bind fun x0=>
 bif x0 then
  (lp (ZaO a0) (0,([]:List Int))).bind fun r3=>
  some r3
 else
  (lp (ZaD a0 a3) (0,([]:List Int))).bind fun r7=>
  some r7
def Zam (a:Int) (b7:Int):Option Bool:=
 bif (decide (b7<a)) then
  some true
 else
  some false
def Zci (a7:Int) (b:List Int) (c:List Int) (d:Int):Option Int:=
 bif (decide (d<(c.length:Int))) then
  (ZK c d).bind fun x0=>
  bif ((b.length:Int)==0) then
   none
  else
   (ZK b (Int.tmod (bif decide (x0<0) then 0 else x0) (b.length:Int))).bind fun x1=>
   some x1
 else
  (ZB b (fun z0=>Zam z0 a7)).bind fun x2=>
  (ZK b (bif decide (x2<0) then 0 else x2)).bind fun x3=>
  some x3
def ZbL (a:Int):Option Bool:=
 bif (decide (a<(-1))) then
  some true
 else
  bif (decide (1099511627775<a)) then
   some true
  else
   some false
def ZfT (a:Zh):Option Bool:=
 bif a.steal then
  bif (a.end_==0) then
   bif (decide (0≤a.at_)) then
    bif (decide (a.at_≤3)) then
     bif (a.at_==0) then
      some true
     else
      (ZbL a.top).bind fun x0=>
      bif x0 then
       some false
      else
       (ZbL a.bottom).bind fun x1=>
       bif x1 then
        some false
       else
        some true
    else
     some false
   else
    some false
  else
   some false
 else
  bif (a.end_==0) then
   bif (decide (0≤a.at_)) then
    bif (decide (a.at_≤4)) then
     bif (a.at_==0) then
      some true
     else
      (ZbL a.top).bind fun x2=>
      bif x2 then
       some false
      else
       (ZbL a.bottom).bind fun x3=>
       bif x3 then
        some false
       else
        some true
    else
     some false
   else
    some false
  else
   some false
def Zfo (a:Zb):Option Unit:=
 (Zl a.ring).bind fun x0=>
 some ()
def Zcm (a:Zb) (b:Int):Option Int:=
 bif ((a.ring.length:Int)==0) then
  none
 else
  some (Int.tmod (bif decide (b<0) then 0 else b) (a.ring.length:Int))
def Zc3 (m0_0:Int) (m1_2:Int):Option (Unit⊕Unit):=
 bif (m0_0 != m1_2) then
  some (.inl ())
 else
  some (.inr ())
def ZaZ (m0_0:Int) (m0_1:Int) (m1_1:Int) (m1_2:Int) (m1_3:Int) (m1_4:Int) (m1_5:Int) (m2_0:List Int):Option (Int×Int×Int×Int×Int×Int):=
 bif (m1_1==0) then
  some (m0_0,1,m0_0,m1_3,m1_4,m1_5)
 else
  bif (m1_1==1) then
   bif (decide (m0_1≤m1_2)) then
    some (m0_0,1,m1_2,m0_1,m1_4,2)
   else
    some (m0_0,2,m1_2,m0_1,m1_4,m1_5)
  else
   bif (m1_1==2) then
    (Zcm (Zb.mk m2_0 m0_0 m0_1) m1_2).bind fun x0=>
    (ZK m2_0 x0).bind fun x1=>
    some (m0_0,3,m1_2,m1_3,x1,m1_5)
   else
    (Zc3 m0_0 m1_2).bind fun x2=>
    match x2 with
    | (.inl x2)=>
     some (m0_0,m1_1,m1_2,m1_3,0,3)
    | (.inr x2)=>
     some ((w64 (m0_0+1)),m1_1,m1_2,m1_3,m1_4,1)
def Za5 (m0_0:Int) (m0_1:Int) (m1_1:Int) (m1_2:Int) (m1_3:Int) (m1_4:Int) (m1_5:Int) (m2_0:List Int):Option (Int×Int×Int×Int×Int×Int×Int):=
 bif (m1_1==0) then
  some (m0_0,(w64 (m0_1-1)),1,m1_2,(w64 (m0_1-1)),m1_4,m1_5)
 else
  bif (m1_1==1) then
   bif (decide (m0_0<m1_3)) then
    (Zcm (Zb.mk m2_0 m0_0 m0_1) m1_3).bind fun x0=>
    (ZK m2_0 x0).bind fun x1=>
    some (m0_0,m0_1,m1_1,m0_0,m1_3,x1,1)
   else
    bif (m0_0==m1_3) then
     some (m0_0,m0_1,2,m0_0,m1_3,m1_4,m1_5)
    else
     some (m0_0,m0_1,3,m0_0,m1_3,m1_4,m1_5)
  else
   bif (m1_1==2) then
    (Zc3 m0_0 m1_2).bind fun x2=>
    match x2 with
    | (.inl x2)=>
     some (m0_0,m0_1,3,m1_2,m1_3,m1_4,m1_5)
    | (.inr x2)=>
     (Zcm (Zb.mk m2_0 (w64 (m0_0+1)) m0_1) m1_3).bind fun x3=>
     (ZK m2_0 x3).bind fun x4=>
     some ((w64 (m0_0+1)),m0_1,4,m1_2,m1_3,x4,m1_5)
   else
    bif (m1_1==4) then
     some (m0_0,(w64 (m1_3+1)),m1_1,m1_2,m1_3,m1_4,1)
    else
     some (m0_0,(w64 (m1_3+1)),m1_1,m1_2,m1_3,m1_4,2)
def Zav (a:Zb) (b:Zh):Option (Zb×Zh×Int):=
 (Zbx a).bind fun x0=>
 bif (x0 != 0) then
  some ((Zb.mk ([]:List Int) 0 0),(Zh.mk false 0 0 0 0 0),x0)
 else
  (ZfT b).bind fun x1=>
  bif x1 then
   (Zfo a).bind fun x2=>
   bif b.steal then
    (ZaZ a.top a.bottom b.at_ b.top b.bottom b.got b.end_ a.ring).bind fun x3=>
    (Zbx (Zb.mk a.ring x3.1 a.bottom)).bind fun x4=>
    bif (x4 != 0) then
     some ((Zb.mk ([]:List Int) 0 0),(Zh.mk false 0 0 0 0 0),x4)
    else
     some ((Zb.mk a.ring x3.1 a.bottom),(Zh.mk b.steal x3.2.1 x3.2.2.1 x3.2.2.2.1 x3.2.2.2.2.1 x3.2.2.2.2.2),0)
   else
    (Za5 a.top a.bottom b.at_ b.top b.bottom b.got b.end_ a.ring).bind fun x5=>
    (Zbx (Zb.mk a.ring x5.1 x5.2.1)).bind fun x6=>
    bif (x6 != 0) then
     some ((Zb.mk ([]:List Int) 0 0),(Zh.mk false 0 0 0 0 0),x6)
    else
     some ((Zb.mk a.ring x5.1 x5.2.1),(Zh.mk b.steal x5.2.2.1 x5.2.2.2.1 x5.2.2.2.2.1 x5.2.2.2.2.2.1 x5.2.2.2.2.2.2),0)
  else
   some ((Zb.mk ([]:List Int) 0 0),(Zh.mk false 0 0 0 0 0),122)
def Zc8 (a:Zi) (b:ZD) (s0:Int×(List Int)):Option ((Int×(List Int))⊕(List Int)):=
 bif (decide (s0.1<(b.left.length:Int))) then
  (ZcU b s0.1).bind fun x1=>
  bif x1 then
   some (.inl ((w64 (s0.1+1)),s0.2))
  else
   (ZG b.on s0.1).bind fun x2=>
   bif x2 then
    some (.inl ((w64 (s0.1+1)),s0.2))
   else
    (Zep a b s0.1).bind fun x3=>
    bif x3 then
     bif (Nat.ble (List.length s0.2+1) lim) then
      some (.inl ((w64 (s0.1+1)),(s0.2++[s0.1])))
     else
      none
    else
     some (.inl ((w64 (s0.1+1)),s0.2))
 else
  some (.inr s0.2)
def Zey (a:Zi) (b:ZD):Option (List Int):=
 (lp (Zc8 a b) (0,([]:List Int))).bind fun r4=>
 some r4
def Zch (a:Zi) (b:ZD):Option (List Int):=
 (Zc6 a b).bind fun x0=>
 bif (x0 != 0) then
  some ([]:List Int)
 else
  (Zey a b).bind fun x1=>
  some x1
def ZaX (b:Int) (c:Int) (m4_0:List Zh) (m5_0:List Int):Option (List Zh):=
 (ZK m5_0 b).bind fun x0=>
 bif (c != 0) then
  (ZK m4_0 b).bind fun x1=>
  some (List.set m4_0 b.toNat (Zh.mk true 0 0 0 0 0))
 else
  (ZK m4_0 b).bind fun x2=>
  some (List.set m4_0 b.toNat (Zh.mk false 0 0 0 0 0))
def Zac (b:Int) (m0_0:List Int) (m0_1:List Zt) (m1_0:List Int) (m2_0:List Int) (m3_0:List Zb) (m4_0:List Zh) (m5_0:List Int):Option (Int×(List Int)×(List Zb)×(List Zh)×(List Int)):=
 (ZK m5_0 b).bind fun x0=>
 bif ((m1_0.length:Int)==0) then
  none
 else
  (ZK m3_0 (Int.tmod (w64 (b+x0)) (m1_0.length:Int))).bind fun x1=>
  (ZK m4_0 b).bind fun x2=>
  (Zav x1 x2).bind fun x3=>
  bif (x3.2.2 != 0) then
   some (130,m1_0,m3_0,m4_0,m5_0)
  else
   bif (x3.2.1.end_==1) then
    (Zch (Zi.mk m0_0 m0_1) (ZD.mk m1_0 m2_0)).bind fun x4=>
    (ZG x4 x3.2.1.got).bind fun x5=>
    bif x5 then
     (ZK m1_0 b).bind fun x6=>
     (ZaX b 0 (List.set m4_0 b.toNat x3.2.1) m5_0).bind fun x7=>
     some (0,(List.set m1_0 b.toNat x3.2.1.got),(List.set m3_0 (Int.tmod (w64 (b+x0)) (m1_0.length:Int)).toNat x3.1),x7,(List.set m5_0 b.toNat 0))
    else
     some (130,m1_0,(List.set m3_0 (Int.tmod (w64 (b+x0)) (m1_0.length:Int)).toNat x3.1),(List.set m4_0 b.toNat x3.2.1),m5_0)
   else
    bif (x3.2.1.end_==2) then
     bif ((m1_0.length:Int)==0) then
      none
     else
      (ZaX b (Int.tmod (w64 (x0+1)) (m1_0.length:Int)) (List.set m4_0 b.toNat x3.2.1) m5_0).bind fun x8=>
      some (0,m1_0,(List.set m3_0 (Int.tmod (w64 (b+x0)) (m1_0.length:Int)).toNat x3.1),x8,(List.set m5_0 b.toNat (Int.tmod (w64 (x0+1)) (m1_0.length:Int))))
    else
     bif (x3.2.1.end_==3) then
      bif ((m1_0.length:Int)==0) then
       none
      else
       (ZaX b (Int.tmod (w64 (x0+1)) (m1_0.length:Int)) (List.set m4_0 b.toNat x3.2.1) m5_0).bind fun x9=>
       some (0,m1_0,(List.set m3_0 (Int.tmod (w64 (b+x0)) (m1_0.length:Int)).toNat x3.1),x9,(List.set m5_0 b.toNat (Int.tmod (w64 (x0+1)) (m1_0.length:Int))))
     else
      some (0,m1_0,(List.set m3_0 (Int.tmod (w64 (b+x0)) (m1_0.length:Int)).toNat x3.1),(List.set m4_0 b.toNat x3.2.1),m5_0)
def Za4 (b:List Int) (m0_0:List Int) (m0_1:List Zt) (m2_0:List Int) (s1:Int×(List Int)×Int×(List Int)×(List Zb)×(List Zh)×(List Int)):Option ((Int×(List Int)×Int×(List Int)×(List Zb)×(List Zh)×(List Int))⊕((Int×Int×Int×(List Int)×(List Zb)×(List Zh)×(List Int))⊕(Int×Int×(List Int)×(List Zb)×(List Zh)×(List Int)))):=
 bif (decide (0<(s1.2.1.length:Int))) then
  (Zci s1.2.2.1 s1.2.1 b s1.1).bind fun x2=>
  (Zac x2 m0_0 m0_1 s1.2.2.2.1 m2_0 s1.2.2.2.2.1 s1.2.2.2.2.2.1 s1.2.2.2.2.2.2).bind fun x3=>
  bif (x3.1 != 0) then
   some (.inr (.inl (x3.1,s1.1,s1.2.2.1,x3.2.1,x3.2.2.1,x3.2.2.2.1,x3.2.2.2.2)))
  else
   (ZbG x3.2.1 x3.2.2.1 x3.2.2.2.1).bind fun x4=>
   some (.inl ((w64 (s1.1+1)),x4,x2,x3.2.1,x3.2.2.1,x3.2.2.2.1,x3.2.2.2.2))
 else
  some (.inr (.inr (s1.1,s1.2.2.1,s1.2.2.2.1,s1.2.2.2.2.1,s1.2.2.2.2.2.1,s1.2.2.2.2.2.2)))
def Zdp (b:List Int) (m0_0:List Int) (m0_1:List Zt) (m1_0:List Int) (m2_0:List Int) (m3_0:List Zb) (m4_0:List Zh) (m5_0:List Int):Option (Int×Int×Int×(List Int)×(List Zb)×(List Zh)×(List Int)):=
 (ZbG m1_0 m3_0 m4_0).bind fun x0=>
 (lp (Za4 b m0_0 m0_1 m2_0) (0,x0,(-1),m1_0,m3_0,m4_0,m5_0)).bind fun r5=>
 match r5 with
 | (.inl r5)=>
  some (0,r5.1,r5.2.2.1,r5.2.2.2.1,r5.2.2.2.2.1,r5.2.2.2.2.2.1,r5.2.2.2.2.2.2)
 | (.inr r5)=>
  some (r5.1,0,r5.2.1,r5.2.2.1,r5.2.2.2.1,r5.2.2.2.2.1,r5.2.2.2.2.2)
def ZfZ (a:Zi) (b:ZP) (c:List Int):Option (ZP×Int×Int):=
 (Zd9 a b).bind fun x0=>
 bif (x0 != 0) then
  some ((ZP.mk (ZD.mk ([]:List Int) ([]:List Int)) ([]:List Zb) ([]:List Zh) ([]:List Int)),0,x0)
 else
  (Zfn b).bind fun x1=>
  (Zdp c a.work a.edges b.crew.on b.crew.left x1 b.takers b.from_).bind fun x2=>
  bif (x2.2.1 != 0) then
   some ((ZP.mk (ZD.mk ([]:List Int) ([]:List Int)) ([]:List Zb) ([]:List Zh) ([]:List Int)),0,x2.2.1)
  else
   some ((ZP.mk (ZD.mk x2.2.2.2.1 b.crew.left) x2.2.2.2.2.1 x2.2.2.2.2.2.1 x2.2.2.2.2.2.2),x2.1,0)
def ZdT (a:ZiM) (b:Zi) (c:ZP) (d:List Int):Option (ZP×Int×Int):=
 (ZfZ b c d).bind fun x0=>
 some (x0.1,x0.2.1,x0.2.2)
def ZeY (a:ZD):Option Unit:=
 (Zl a.on).bind fun x0=>
 (Zl a.left).bind fun x1=>
 some ()
def ZaB (m0_0:List Int):Option (List Int):=
 bif (Nat.ble (List.length m0_0) lim) then
  (some (sortI m0_0)).bind fun x0=>
  some x0
 else
  none
def ZcR (m0_0:List Int) (s0:Int×(List Int)×(List Int)×(List Int)):Option ((Int×(List Int)×(List Int)×(List Int))⊕((List Int)×(List Int)×(List Int))):=
 bif (decide (s0.1<(m0_0.length:Int))) then
  (ZK s0.2.1 s0.1).bind fun x1=>
  bif (x1==(-1)) then
   some (.inl ((w64 (s0.1+1)),s0.2.1,s0.2.2.1,s0.2.2.2))
  else
   (ZK s0.2.2.1 x1).bind fun x2=>
   (ZcU (ZD.mk s0.2.1 (List.set s0.2.2.1 x1.toNat (w64 (x2-1)))) x1).bind fun x3=>
   bif x3 then
    bif (Nat.ble (List.length s0.2.2.2+1) lim) then
     some (.inl ((w64 (s0.1+1)),(List.set s0.2.1 s0.1.toNat (-1)),(List.set s0.2.2.1 x1.toNat (w64 (x2-1))),(s0.2.2.2++[x1])))
    else
     none
   else
    some (.inl ((w64 (s0.1+1)),s0.2.1,(List.set s0.2.2.1 x1.toNat (w64 (x2-1))),s0.2.2.2))
 else
  some (.inr (s0.2.1,s0.2.2.1,s0.2.2.2))
def Zjq (m0_0:List Int) (m1_0:List Int):Option ((List Int)×(List Int)×(List Int)):=
 (lp (ZcR m0_0) (0,m0_0,m1_0,([]:List Int))).bind fun r4=>
 (ZaB r4.2.2).bind fun x5=>
 some (r4.1,r4.2.1,x5)
def Zfm (a:Zi) (b:ZD):Option (Int⊕((List Int)×(List Int)×(List Int))):=
 (Zc6 a b).bind fun x0=>
 bif (x0 != 0) then
  some (.inl x0)
 else
  (ZeY b).bind fun x1=>
  (Zjq b.on b.left).bind fun x2=>
  some (.inr (x2.1,x2.2.1,x2.2.2))
def Zdh (a:Zt) (b0:Int):Option (Int×Bool):=
 bif (a.src==b0) then
  some (a.dst,true)
 else
  some (a.dst,false)
def Zbt (a:Zi) (b:(Zt→Option (Int×Bool))) (s0:Int×(List Int)):Option ((Int×(List Int))⊕(List Int)):=
 bif (decide (s0.1<(a.edges.length:Int))) then
  (ZK a.edges s0.1).bind fun x1=>
  (b x1).bind fun x2=>
  bif x2.2 then
   bif (Nat.ble (List.length s0.2+1) lim) then
    some (.inl ((w64 (s0.1+1)),(s0.2++[x2.1])))
   else
    none
  else
   some (.inl ((w64 (s0.1+1)),s0.2))
 else
  some (.inr s0.2)
def Zf4 (a:Zi) (b:(Zt→Option (Int×Bool))):Option (List Int):=
 (lp (Zbt a b) (0,([]:List Int))).bind fun r3=>
 (ZaB r3).bind fun x4=>
 some x4
def ZgO (a:Zi) (b:Int):Option (List Int):=
 (Zbz a).bind fun x0=>
 bif (x0 != 0) then
  some ([]:List Int)
 else
  (Zf4 a (fun z0=>Zdh z0 b)).bind fun x1=>
  some x1
def Zib (a:Zb) (b:Int):Option (Zb×Int):=
 (Zbx a).bind fun x0=>
 bif (x0 != 0) then
  some ((Zb.mk ([]:List Int) 0 0),x0)
 else
  bif (decide (a.bottom<a.top)) then
   some ((Zb.mk ([]:List Int) 0 0),121)
  else
   bif ((w64 (a.bottom-a.top))==(a.ring.length:Int)) then
    some ((Zb.mk ([]:List Int) 0 0),121)
   else
    (Zfo a).bind fun x1=>
    (Zcm a a.bottom).bind fun x2=>
    (ZK a.ring x2).bind fun x3=>
    some ((Zb.mk (List.set a.ring x2.toNat b) a.top (w64 (a.bottom+1))),0)
def Zcg (b:Int) (c:Int) (m3_0:List Zb):Option ((List Zb)⊕(List Zb)):=
 (ZK m3_0 b).bind fun x0=>
 (Zib x0 c).bind fun x1=>
 bif (x1.2==0) then
  bif (x1.2==0) then
   some (.inl (List.set m3_0 b.toNat x1.1))
  else
   some (.inr (List.set m3_0 b.toNat x1.1))
 else
  bif (x1.2==0) then
   some (.inl m3_0)
  else
   some (.inr m3_0)
def ZaA (x2:List Int) (s3:Int×(List Zb)×(List Int)) (x6:List Int) (s7:Int×(List Zb)×(List Int)):Option ((Int×(List Zb)×(List Int))⊕(((List Zb)×(List Int))⊕((List Zb)×(List Int)))):=
 bif (decide (s7.1<(x6.length:Int))) then
  (ZK x6 s7.1).bind fun x8=>
  (ZG x2 x8).bind fun x9=>
  bif x9 then
   (ZG s7.2.2 x8).bind fun x10=>
   bif x10 then
    some (.inl ((w64 (s7.1+1)),s7.2.1,s7.2.2))
   else
    (Zcg s3.1 x8 s7.2.1).bind fun x11=>
    match x11 with
    | (.inl x11)=>
     bif (Nat.ble (List.length s7.2.2+1) lim) then
      some (.inl ((w64 (s7.1+1)),x11,(s7.2.2++[x8])))
     else
      none
    | (.inr x11)=>
     some (.inr (.inl (x11,s7.2.2)))
  else
   some (.inl ((w64 (s7.1+1)),s7.2.1,s7.2.2))
 else
  some (.inr (.inr (s7.2.1,s7.2.2)))
def ZaC (m0_0:List Int) (m0_1:List Zt) (m1_0:List Int) (x1:((List Int)×(List Int)×(List Int))) (x2:List Int) (s3:Int×(List Zb)×(List Int)):Option ((Int×(List Zb)×(List Int))⊕((List Zb)⊕(List Zb))):=
 bif (decide (s3.1<(m1_0.length:Int))) then
  (ZK m1_0 s3.1).bind fun x4=>
  bif (x4==(-1)) then
   some (.inl ((w64 (s3.1+1)),s3.2.1,s3.2.2))
  else
   (ZK x1.1 s3.1).bind fun x5=>
   bif (x5 != (-1)) then
    some (.inl ((w64 (s3.1+1)),s3.2.1,s3.2.2))
   else
    (ZgO (Zi.mk m0_0 m0_1) x4).bind fun x6=>
    (lp (ZaA x2 s3 x6) (0,s3.2.1,s3.2.2)).bind fun r12=>
    match r12 with
    | (.inl r12)=>
     some (.inr (.inl r12.1))
    | (.inr r12)=>
     some (.inl ((w64 (s3.1+1)),r12.1,r12.2))
 else
  some (.inr (.inr s3.2.1))
def Zdt (m0_0:List Int) (m0_1:List Zt) (m1_0:List Int) (m2_0:List Int) (m3_0:List Zb):Option (Int⊕(((List Zb)×(List Int)×(List Int))⊕((List Zb)×(List Int)×(List Int)×(List Int)))):=
 (Zl m1_0).bind fun x0=>
 (Zfm (Zi.mk m0_0 m0_1) (ZD.mk m1_0 m2_0)).bind fun x1=>
 match x1 with
 | (.inl x1)=>
  bif (x1 != 0) then
   some (.inl x1)
  else
   none
 | (.inr x1)=>
  (Zch (Zi.mk m0_0 m0_1) (ZD.mk x1.1 x1.2.1)).bind fun x2=>
  (lp (ZaC m0_0 m0_1 m1_0 x1 x2) (0,m3_0,([]:List Int))).bind fun r13=>
  match r13 with
  | (.inl r13)=>
   some (.inr (.inl (r13,x1.1,x1.2.1)))
  | (.inr r13)=>
   some (.inr (.inr (r13,x1.2.2,x1.1,x1.2.1)))
def ZfW (a:Zi) (b:ZP):Option (ZP×(List Int)×Int):=
 (Zd9 a b).bind fun x0=>
 bif (x0 != 0) then
  some ((ZP.mk (ZD.mk ([]:List Int) ([]:List Int)) ([]:List Zb) ([]:List Zh) ([]:List Int)),([]:List Int),x0)
 else
  (Zfn b).bind fun x1=>
  (Zdt a.work a.edges b.crew.on b.crew.left x1).bind fun x2=>
  match x2 with
  | (.inl x2)=>
   bif (x2 != 0) then
    some ((ZP.mk (ZD.mk ([]:List Int) ([]:List Int)) ([]:List Zb) ([]:List Zh) ([]:List Int)),([]:List Int),x2)
   else
    none
  | (.inr (.inl x2))=>
   some ((ZP.mk (ZD.mk ([]:List Int) ([]:List Int)) ([]:List Zb) ([]:List Zh) ([]:List Int)),([]:List Int),130)
  | (.inr (.inr x2))=>
   some ((ZP.mk (ZD.mk x2.2.2.1 x2.2.2.2) x2.1 b.takers b.from_),x2.2.1,0)
def ZdL (a:ZiM) (b:Zi) (c:ZP):Option (ZP×(List Int)×Int):=
 (ZfW b c).bind fun x0=>
 some (x0.1,x0.2.1,x0.2.2)
def ZcE (m0_0:List Int) (s1:(List Int)×Int×(List Int)):Option (((List Int)×Int×(List Int))⊕(List Int)):=
 bif (decide (s1.2.1<(m0_0.length:Int))) then
  (ZK s1.2.2 s1.2.1).bind fun x2=>
  bif (x2==(-1)) then
   bif (decide (0<(s1.1.length:Int))) then
    (ZK s1.1 0).bind fun x3=>
    bif (Nat.ble 1 (List.length s1.1)) then
     some (.inl ((List.drop 1 s1.1),(w64 (s1.2.1+1)),(List.set s1.2.2 s1.2.1.toNat x3)))
    else
     none
   else
    some (.inl (s1.1,(w64 (s1.2.1+1)),s1.2.2))
  else
   some (.inl (s1.1,(w64 (s1.2.1+1)),s1.2.2))
 else
  some (.inr s1.2.2)
def Zi9 (a:Zi) (m0_0:List Int) (m1_0:List Int):Option (List Int):=
 (Zey a (ZD.mk m0_0 m1_0)).bind fun x0=>
 (lp (ZcE m0_0) (x0,0,m0_0)).bind fun r4=>
 some r4
def ZgG (a:Zi) (b:ZD):Option (ZD×Int):=
 (Zc6 a b).bind fun x0=>
 bif (x0 != 0) then
  some ((ZD.mk ([]:List Int) ([]:List Int)),x0)
 else
  (ZeY b).bind fun x1=>
  (Zi9 a b.on b.left).bind fun x2=>
  some ((ZD.mk x2 b.left),0)
def Zef (a:ZoI) (b:Zi) (c:ZP) (d:List Int):Option (ZP×Int×Int):=
 (ZgG b c.crew).bind fun x0=>
 some ((ZP.mk x0.1 ([]:List Zb) ([]:List Zh) ([]:List Int)),0,x0.2)
def Zed (a:ZoI) (b:Zi) (c:ZP):Option (ZP×(List Int)×Int):=
 (Zfm b c.crew).bind fun x0=>
 match x0 with
 | (.inl x0)=>
  some ((ZP.mk (ZD.mk ([]:List Int) ([]:List Int)) ([]:List Zb) ([]:List Zh) ([]:List Int)),([]:List Int),x0)
 | (.inr x0)=>
  some ((ZP.mk (ZD.mk x0.1 x0.2.1) ([]:List Zb) ([]:List Zh) ([]:List Int)),x0.2.2,0)
def Zfk (a:Zi) (b:ZbJ) (c:List Int):Option (ZbJ×Zbd×Int):=
 bif b.stealing then
  (ZdO true).bind fun x0=>
  match x0 with
  | (.inl x0)=>
   (ZdT (ZiM.mk ) a b.gang c).bind fun x1=>
   bif (x1.2.2 != 0) then
    some ((ZbJ.mk false ([]:List Int) 0 (ZP.mk (ZD.mk ([]:List Int) ([]:List Int)) ([]:List Zb) ([]:List Zh) ([]:List Int))),(Zbd.mk ([]:List Int) ([]:List Int) 0),x1.2.2)
   else
    (Zl x1.1.crew.on).bind fun x2=>
    (ZdL (ZiM.mk ) a x1.1).bind fun x3=>
    bif (x3.2.2 != 0) then
     some ((ZbJ.mk false ([]:List Int) 0 (ZP.mk (ZD.mk ([]:List Int) ([]:List Int)) ([]:List Zb) ([]:List Zh) ([]:List Int))),(Zbd.mk ([]:List Int) ([]:List Int) 0),x3.2.2)
    else
     (Zl b.demand).bind fun x4=>
     (Zbs a b.demand x3.1.crew.left).bind fun x5=>
     some ((ZbJ.mk b.stealing b.demand x5 x3.1),(Zbd.mk x1.1.crew.on x3.2.1 x1.2.1),0)
  | (.inr x0)=>
   (Zef (ZoI.mk ) a b.gang c).bind fun x6=>
   bif (x6.2.2 != 0) then
    some ((ZbJ.mk false ([]:List Int) 0 (ZP.mk (ZD.mk ([]:List Int) ([]:List Int)) ([]:List Zb) ([]:List Zh) ([]:List Int))),(Zbd.mk ([]:List Int) ([]:List Int) 0),x6.2.2)
   else
    (Zl x6.1.crew.on).bind fun x7=>
    (Zed (ZoI.mk ) a x6.1).bind fun x8=>
    bif (x8.2.2 != 0) then
     some ((ZbJ.mk false ([]:List Int) 0 (ZP.mk (ZD.mk ([]:List Int) ([]:List Int)) ([]:List Zb) ([]:List Zh) ([]:List Int))),(Zbd.mk ([]:List Int) ([]:List Int) 0),x8.2.2)
    else
     (Zl b.demand).bind fun x9=>
     (Zbs a b.demand x8.1.crew.left).bind fun x10=>
     some ((ZbJ.mk b.stealing b.demand x10 x8.1),(Zbd.mk x6.1.crew.on x8.2.1 x6.2.1),0)
 else
  (ZdO false).bind fun x11=>
  match x11 with
  | (.inl x11)=>
   (ZdT (ZiM.mk ) a b.gang c).bind fun x12=>
   bif (x12.2.2 != 0) then
    some ((ZbJ.mk false ([]:List Int) 0 (ZP.mk (ZD.mk ([]:List Int) ([]:List Int)) ([]:List Zb) ([]:List Zh) ([]:List Int))),(Zbd.mk ([]:List Int) ([]:List Int) 0),x12.2.2)
   else
    (Zl x12.1.crew.on).bind fun x13=>
    (ZdL (ZiM.mk ) a x12.1).bind fun x14=>
    bif (x14.2.2 != 0) then
     some ((ZbJ.mk false ([]:List Int) 0 (ZP.mk (ZD.mk ([]:List Int) ([]:List Int)) ([]:List Zb) ([]:List Zh) ([]:List Int))),(Zbd.mk ([]:List Int) ([]:List Int) 0),x14.2.2)
    else
     (Zl b.demand).bind fun x15=>
     (Zbs a b.demand x14.1.crew.left).bind fun x16=>
     some ((ZbJ.mk b.stealing b.demand x16 x14.1),(Zbd.mk x12.1.crew.on x14.2.1 x12.2.1),0)
  | (.inr x11)=>
   (Zef (ZoI.mk ) a b.gang c).bind fun x17=>
   bif (x17.2.2 != 0) then
    some ((ZbJ.mk false ([]:List Int) 0 (ZP.mk (ZD.mk ([]:List Int) ([]:List Int)) ([]:List Zb) ([]:List Zh) ([]:List Int))),(Zbd.mk ([]:List Int) ([]:List Int) 0),x17.2.2)
   else
    (Zl x17.1.crew.on).bind fun x18=>
    (Zed (ZoI.mk ) a x17.1).bind fun x19=>
    bif (x19.2.2 != 0) then
     some ((ZbJ.mk false ([]:List Int) 0 (ZP.mk (ZD.mk ([]:List Int) ([]:List Int)) ([]:List Zb) ([]:List Zh) ([]:List Int))),(Zbd.mk ([]:List Int) ([]:List Int) 0),x19.2.2)
    else
     (Zl b.demand).bind fun x20=>
     (Zbs a b.demand x19.1.crew.left).bind fun x21=>
     some ((ZbJ.mk b.stealing b.demand x21 x19.1),(Zbd.mk x17.1.crew.on x19.2.1 x17.2.1),0)
def Zdz (a:Zi) (s1:Int×Int):Option ((Int×Int)⊕Int):=
 bif (decide (s1.2<(a.work.length:Int))) then
  (ZK a.work s1.2).bind fun x2=>
  some (.inl ((w64 (s1.1+x2)),(w64 (s1.2+1))))
 else
  some (.inr s1.1)
def ZcV (a:Zi):Option Int:=
 (Zbz a).bind fun x0=>
 bif (x0==0) then
  (lp (Zdz a) (0,0)).bind fun r3=>
  some r3
 else
  some 0
def ZeE (a:Zi) (b:List Int):Option Bool:=
 (ZgI a).bind fun x0=>
 bif x0 then
  bif (decide ((b.length:Int)≤70)) then
   (ZcW a).bind fun x1=>
   (ZcV a).bind fun x2=>
   bif (decide (x2≤300)) then
    some true
   else
    some false
  else
   some false
 else
  some false
def Zbg (a:Int):Option Bool:=
 bif (decide (a<1)) then
  some true
 else
  bif (decide (1000<a)) then
   some true
  else
   some false
def Zd6 (a:Zi) (b:List Int) (c:Int):Option (Bool×Int):=
 (Zbz a).bind fun x0=>
 bif (x0 != 0) then
  some (false,x0)
 else
  bif ((b.length:Int)==(a.work.length:Int)) then
   (Zw b (fun z0=>Zbg z0)).bind fun x1=>
   bif x1 then
    some (false,0)
   else
    bif (decide (1≤c)) then
     bif (decide (c≤8)) then
      some (true,0)
     else
      some (false,0)
    else
     some (false,0)
  else
   some (false,0)
def ZcF (a:List Int) (b0:Int):Option Bool:=
 bif ((a.length:Int) != b0) then
  some true
 else
  some false
def ZbZ (a:(List (List Int))) (b:((List Int)→Option Bool)) (s0:Int):Option (Int⊕(Int⊕Unit)):=
 bif (decide (s0<(a.length:Int))) then
  (ZK a s0).bind fun x1=>
  (b x1).bind fun x2=>
  bif x2 then
   some (.inr (.inl s0))
  else
   some (.inl (w64 (s0+1)))
 else
  some (.inr (.inr ()))
def ZaW (a:(List (List Int))) (b:((List Int)→Option Bool)):Option Int:=
 (lp (ZbZ a b) 0).bind fun r3=>
 match r3 with
 | (.inl r3)=>
  some r3
 | (.inr r3)=>
  some (-1)
def Zab (a:(List (List Int))) (b:((List Int)→Option Bool)):Option Bool:=
 (ZaW a b).bind fun x0=>
 bif (decide (0≤x0)) then
  some true
 else
  some false
def ZaS (a:List Int) (s0:Int×(List Int)):Option ((Int×(List Int))⊕(List Int)):=
 bif (decide (s0.1<(a.length:Int))) then
  (ZK s0.2 s0.1).bind fun x1=>
  some (.inl ((w64 (s0.1+1)),(List.set s0.2 s0.1.toNat (-1))))
 else
  some (.inr s0.2)
def Ze9 (a:List Int):Option (List Int):=
 bif (decide (0≤(a.length:Int))&&decide ((a.length:Int)≤lim)&&decide ((a.length:Int)==(a.length:Int))) then
  bif (decide (0≤(a.length:Int))&&decide ((a.length:Int)≤lim)&&decide ((a.length:Int)==(a.length:Int))) then
   bif (decide (0≤(a.length:Int))&&decide ((a.length:Int)≤lim)&&decide ((a.length:Int)==(a.length:Int))) then
    (lp (ZaS a) (0,(List.replicate (a.length:Int).toNat (0:Int)))).bind fun r2=>
    some r2
   else
    none
  else
   none
 else
  none
def ZgN (a3:List Int) (b:Int) (c:Int):Option Bool:=
 (ZK a3 b).bind fun x0=>
 bif (decide (0≤x0)) then
  bif (decide (x0≤c)) then
   some true
  else
   some false
 else
  some false
def Zbm (a:Zt) (b0:Int) (c3:List Int) (d0:Int):Option Bool:=
 bif (a.dst==b0) then
  (ZgN c3 a.src d0).bind fun x0=>
  bif x0 then
   some false
  else
   some true
 else
  some false
def Zez (a3:List Int) (b:Zi) (c:Int) (d:Int):Option Bool:=
 (ZO b.edges (fun z0=>Zbm z0 c a3 d)).bind fun x0=>
 bif x0 then
  some false
 else
  some true
def ZhP (a0:List Int) (a1:List Int) (a2:List Zae) (a3:List Int) (b:Zi) (c:List Int) (d:Int) (e:Int):Option Int:=
 (ZK c e).bind fun x0=>
 bif (decide (x0<(-1))) then
  some 101
 else
  bif (decide ((a0.length:Int)≤x0)) then
   some 101
  else
   bif (decide (0≤e)) then
    bif (Nat.ble e.toNat (List.length c)) then
     (ZG (List.take e.toNat c) x0).bind fun x1=>
     bif x1 then
      some 102
     else
      (ZK a1 x0).bind fun x2=>
      (ZK a0 x0).bind fun x3=>
      bif (decide (x3≤x2)) then
       some 105
      else
       bif (decide (0<x2)) then
        (ZK a2 x0).bind fun x4=>
        bif (!((x4.a0==(w64 (d-1)))&&((x4.a1==e)&&true))) then
         some 104
        else
         bif (x2==0) then
          (Zez a3 b x0 d).bind fun x5=>
          bif x5 then
           some 0
          else
           some 103
         else
          some 0
       else
        bif (x2==0) then
         (Zez a3 b x0 d).bind fun x6=>
         bif x6 then
          some 0
         else
          some 103
        else
         some 0
    else
     none
   else
    none
def Zli (b:Int) (c:List Int):Option Unit:=
 some ()
def Zhl (b:Int) (c:Int) (d:Int) (m0_0:List Int) (m1_0:List Int) (m2_0:List Zae) (m3_0:List Int):Option ((List Int)×(List Int)):=
 (ZK m1_0 b).bind fun x0=>
 (ZK m2_0 b).bind fun x1=>
 (ZK (List.set m1_0 b.toNat (w64 (x0+1))) b).bind fun x2=>
 (ZK m0_0 b).bind fun x3=>
 bif (x2==x3) then
  (ZK m3_0 b).bind fun x4=>
  some ((List.set m1_0 b.toNat (w64 (x0+1))),(List.set m3_0 b.toNat (w64 (c+1))))
 else
  some ((List.set m1_0 b.toNat (w64 (x0+1))),m3_0)
def ZiB (a:Zi) (b:List Int) (s3:Int×Int×(List Int)×(List Zae)×(List Int)) (x4:List Int) (s5:Int×Int):Option ((Int×Int)⊕(Int⊕Int)):=
 bif (decide (s5.2<(x4.length:Int))) then
  (ZK x4 s5.2).bind fun x6=>
  bif (x6==(-1)) then
   some (.inl (s5.1,(w64 (s5.2+1))))
  else
   (ZhP b s3.2.2.1 s3.2.2.2.1 s3.2.2.2.2 a x4 s3.2.1 s5.2).bind fun x7=>
   bif (x7 != 0) then
    some (.inr (.inl x7))
   else
    some (.inl (x7,(w64 (s5.2+1))))
 else
  some (.inr (.inr s5.1))
def ZiA (b:List Int) (s3:Int×Int×(List Int)×(List Zae)×(List Int)) (x4:List Int) (s10:Int×(List Int)×(List Zae)×(List Int)):Option ((Int×(List Int)×(List Zae)×(List Int))⊕((List Int)×(List Zae)×(List Int))):=
 bif (decide (s10.1<(x4.length:Int))) then
  (ZK x4 s10.1).bind fun x11=>
  bif (x11 != (-1)) then
   (Zhl x11 s3.2.1 s10.1 b s10.2.1 s10.2.2.1 s10.2.2.2).bind fun x12=>
   some (.inl ((w64 (s10.1+1)),x12.1,(List.set s10.2.2.1 x11.toNat (Zae.mk s3.2.1 s10.1)),x12.2))
  else
   some (.inl ((w64 (s10.1+1)),s10.2.1,s10.2.2.1,s10.2.2.2))
 else
  some (.inr (s10.2.1,s10.2.2.1,s10.2.2.2))
def Ziv (a:Zi) (b:List Int) (d:(List (List Int))) (s3:Int×Int×(List Int)×(List Zae)×(List Int)):Option ((Int×Int×(List Int)×(List Zae)×(List Int))⊕(Int×(List Int)×(List Zae)×(List Int))):=
 bif (decide (s3.2.1<(d.length:Int))) then
  (ZK d s3.2.1).bind fun x4=>
  (lp (ZiB a b s3 x4) (s3.1,0)).bind fun r8=>
  match r8 with
  | (.inl r8)=>
   some (.inr (r8,s3.2.2.1,s3.2.2.2.1,s3.2.2.2.2))
  | (.inr r8)=>
   (Zli s3.2.1 x4).bind fun x9=>
   (lp (ZiA b s3 x4) (0,s3.2.2.1,s3.2.2.2.1,s3.2.2.2.2)).bind fun r13=>
   some (.inl (r8,(w64 (s3.2.1+1)),r13.1,r13.2.1,r13.2.2))
 else
  some (.inr (s3.1,s3.2.2.1,s3.2.2.2.1,s3.2.2.2.2))
def Zis (a:Zi) (b:List Int) (c:Int) (d:(List (List Int))):Option (Int⊕(Int×(List Int)×(List Zae)×(List Int))):=
 (Zd6 a b c).bind fun x0=>
 bif x0.1 then
  bif (x0.2 != 0) then
   some (.inl x0.2)
  else
   bif (decide (4096<(d.length:Int))) then
    some (.inl 100)
   else
    (Zab d (fun z0=>ZcF z0 c)).bind fun x1=>
    bif x1 then
     some (.inl 100)
    else
     (Ze9 b).bind fun x2=>
     (lp (Ziv a b d) (x0.2,0,(List.replicate (b.length:Int).toNat (0:Int)),(List.replicate (b.length:Int).toNat ((Zae.mk 0 0):Zae)),x2)).bind fun r14=>
     some (.inr (r14.1,r14.2.1,r14.2.2.1,r14.2.2.2))
 else
  bif (x0.2 != 0) then
   some (.inl x0.2)
  else
   some (.inl 100)
def Zff (a:Zi) (b:List Int) (c:Int) (d:(List (List Int))):Option Int:=
 (Zis a b c d).bind fun x0=>
 match x0 with
 | (.inl x0)=>
  some x0
 | (.inr x0)=>
  some x0.1
def Zdg (c:Int) (s2:Int×(List Int)):Option ((Int×(List Int))⊕(List Int)):=
 bif (decide (s2.1<c)) then
  bif (Nat.ble (List.length s2.2+1) lim) then
   some (.inl ((w64 (s2.1+1)),(s2.2++[(-1)])))
  else
   none
 else
  some (.inr s2.2)
def Ze7 (a:Zi) (b:List Int) (c:Int):Option (Int⊕(List Int)):=
 (Zff a b c ([]:List (List Int))).bind fun x0=>
 bif (x0 != 0) then
  some (.inl x0)
 else
  (Zl b).bind fun x1=>
  (lp (Zdg c) (0,([]:List Int))).bind fun r3=>
  some (.inr r3)
def ZgX (a:Int):Option (Zb×Int):=
 (Zf6 a).bind fun x0=>
 match x0 with
 | (.inl x0)=>
  some ((Zb.mk ([]:List Int) 0 0),120)
 | (.inr x0)=>
  bif (decide (64<a)) then
   some ((Zb.mk ([]:List Int) 0 0),120)
  else
   bif (decide (0≤a)&&decide (a≤lim)&&decide (a==a)) then
    some ((Zb.mk (List.replicate a.toNat (0:Int)) 0 0),0)
   else
    none
def ZcJ (c:Int) (s1:Int×(List Zb)):Option ((Int×(List Zb))⊕(List Zb)):=
 bif (decide (s1.1<c)) then
  (ZgX 64).bind fun x2=>
  bif (Nat.ble (List.length s1.2+1) lim) then
   some (.inl ((w64 (s1.1+1)),(s1.2++[x2.1])))
  else
   none
 else
  some (.inr s1.2)
def ZcH (c:Int) (x4:List Int) (s5:Int×(List Zb)):Option ((Int×(List Zb))⊕(List Zb)):=
 bif (decide (s5.1<(x4.length:Int))) then
  (ZK x4 s5.1).bind fun x6=>
  bif (c==0) then
   none
  else
   (Zcg (Int.tmod x6 c) x6 s5.2).bind fun x7=>
   match x7 with
   | (.inl x7)=>
    some (.inl ((w64 (s5.1+1)),x7))
   | (.inr x7)=>
    some (.inl ((w64 (s5.1+1)),x7))
 else
  some (.inr s5.2)
def ZgU (a:Zi) (b:List Int) (c:Int):Option (Int⊕((List Int)×(List Zb))):=
 (Ze7 a b c).bind fun x0=>
 match x0 with
 | (.inl x0)=>
  bif (x0 != 0) then
   some (.inl x0)
  else
   none
 | (.inr x0)=>
  bif (decide (0≤c)&&decide (c≤lim)&&decide (c==c)) then
   bif (decide (0≤c)&&decide (c≤lim)&&decide (c==c)) then
    (lp (ZcJ c) (0,([]:List Zb))).bind fun r3=>
    (Zch a (ZD.mk x0 b)).bind fun x4=>
    (lp (ZcH c x4) (0,r3)).bind fun r8=>
    some (.inr (x0,r8))
   else
    none
  else
   none
def ZeJ (a:ZiM) (b:Zi) (c:List Int) (d:Int):Option (ZP×Int):=
 (ZgU b c d).bind fun x0=>
 match x0 with
 | (.inl x0)=>
  some ((ZP.mk (ZD.mk ([]:List Int) ([]:List Int)) ([]:List Zb) ([]:List Zh) ([]:List Int)),x0)
 | (.inr x0)=>
  some ((ZP.mk (ZD.mk x0.1 c) x0.2 (List.replicate d.toNat ((Zh.mk false 0 0 0 0 0):Zh)) (List.replicate d.toNat (0:Int))),0)
def ZeW (a:ZoI) (b:Zi) (c:List Int) (d:Int):Option (ZP×Int):=
 (Ze7 b c d).bind fun x0=>
 match x0 with
 | (.inl x0)=>
  some ((ZP.mk (ZD.mk ([]:List Int) ([]:List Int)) ([]:List Zb) ([]:List Zh) ([]:List Int)),x0)
 | (.inr x0)=>
  some ((ZP.mk (ZD.mk x0 c) ([]:List Zb) ([]:List Zh) ([]:List Int)),0)
def Zek (a:Zi) (b:List Int) (c:Int) (d:Bool):Option (ZbJ×Int):=
 (Zbz a).bind fun x0=>
 bif (x0 != 0) then
  some ((ZbJ.mk false ([]:List Int) 0 (ZP.mk (ZD.mk ([]:List Int) ([]:List Int)) ([]:List Zb) ([]:List Zh) ([]:List Int))),x0)
 else
  (Zf1 a b).bind fun x1=>
  bif x1 then
   bif (decide (c<1)) then
    some ((ZbJ.mk false ([]:List Int) 0 (ZP.mk (ZD.mk ([]:List Int) ([]:List Int)) ([]:List Zb) ([]:List Zh) ([]:List Int))),190)
   else
    bif (decide (8<c)) then
     some ((ZbJ.mk false ([]:List Int) 0 (ZP.mk (ZD.mk ([]:List Int) ([]:List Int)) ([]:List Zb) ([]:List Zh) ([]:List Int))),190)
    else
     (ZdO d).bind fun x2=>
     match x2 with
     | (.inl x2)=>
      (Zfl a b).bind fun x3=>
      (ZeJ (ZiM.mk ) a x3 c).bind fun x4=>
      bif (x4.2 != 0) then
       some ((ZbJ.mk false ([]:List Int) 0 (ZP.mk (ZD.mk ([]:List Int) ([]:List Int)) ([]:List Zb) ([]:List Zh) ([]:List Int))),x4.2)
      else
       (Zl b).bind fun x5=>
       (Zbs a b x4.1.crew.left).bind fun x6=>
       some ((ZbJ.mk d b x6 x4.1),0)
     | (.inr x2)=>
      (Zfl a b).bind fun x7=>
      (ZeW (ZoI.mk ) a x7 c).bind fun x8=>
      bif (x8.2 != 0) then
       some ((ZbJ.mk false ([]:List Int) 0 (ZP.mk (ZD.mk ([]:List Int) ([]:List Int)) ([]:List Zb) ([]:List Zh) ([]:List Int))),x8.2)
      else
       (Zl b).bind fun x9=>
       (Zbs a b x8.1.crew.left).bind fun x10=>
       some ((ZbJ.mk d b x10 x8.1),0)
  else
   some ((ZbJ.mk false ([]:List Int) 0 (ZP.mk (ZD.mk ([]:List Int) ([]:List Int)) ([]:List Zb) ([]:List Zh) ([]:List Int))),190)
def Zea (x0:(ZbJ×Int)) (s1:Int×Int):Option ((Int×Int)⊕Int):=
 bif (decide (s1.2<(x0.1.gang.crew.left.length:Int))) then
  (ZK x0.1.gang.crew.left s1.2).bind fun x2=>
  some (.inl ((w64 (s1.1+x2)),(w64 (s1.2+1))))
 else
  some (.inr s1.1)
def Zdn (a:Zi) (s4:(List Int)×Bool×(List Int)×Int×(List Int)×(List Int)×(List Zb)×(List Zh)×(List Int)×(List (List Int))):Option (((List Int)×Bool×(List Int)×Int×(List Int)×(List Int)×(List Zb)×(List Zh)×(List Int)×(List (List Int)))⊕((Int×Bool×(List Int)×Int×(List Int)×(List Int)×(List Zb)×(List Zh)×(List Int)×(List (List Int)))⊕(Bool×(List Int)×Int×(List Int)×(List Int)×(List Zb)×(List Zh)×(List Int)×(List (List Int))))):=
 bif (s4.2.2.2.1==1) then
  (Zfk a (ZbJ.mk s4.2.1 s4.2.2.1 s4.2.2.2.1 (ZP.mk (ZD.mk s4.2.2.2.2.1 s4.2.2.2.2.2.1) s4.2.2.2.2.2.2.1 s4.2.2.2.2.2.2.2.1 s4.2.2.2.2.2.2.2.2.1)) s4.1).bind fun x5=>
  bif (x5.2.2 != 0) then
   some (.inr (.inl (x5.2.2,s4.2.1,s4.2.2.1,s4.2.2.2.1,s4.2.2.2.2.1,s4.2.2.2.2.2.1,s4.2.2.2.2.2.2.1,s4.2.2.2.2.2.2.2.1,s4.2.2.2.2.2.2.2.2.1,s4.2.2.2.2.2.2.2.2.2)))
  else
   bif (decide (0≤(bif decide ((s4.1.length:Int)<x5.2.1.steps) then (s4.1.length:Int) else x5.2.1.steps))) then
    bif (Nat.ble (bif decide ((s4.1.length:Int)<x5.2.1.steps) then (s4.1.length:Int) else x5.2.1.steps).toNat (List.length s4.1)) then
     bif (Nat.ble (List.length s4.2.2.2.2.2.2.2.2.2+1) lim) then
      some (.inl ((List.drop (bif decide ((s4.1.length:Int)<x5.2.1.steps) then (s4.1.length:Int) else x5.2.1.steps).toNat s4.1),x5.1.stealing,x5.1.demand,x5.1.state,x5.1.gang.crew.on,x5.1.gang.crew.left,x5.1.gang.deques,x5.1.gang.takers,x5.1.gang.from_,(s4.2.2.2.2.2.2.2.2.2++[x5.2.1.on])))
     else
      none
    else
     none
   else
    none
 else
  some (.inr (.inr (s4.2.1,s4.2.2.1,s4.2.2.2.1,s4.2.2.2.2.1,s4.2.2.2.2.2.1,s4.2.2.2.2.2.2.1,s4.2.2.2.2.2.2.2.1,s4.2.2.2.2.2.2.2.2.1,s4.2.2.2.2.2.2.2.2.2)))
def Ze4 (a:Zi) (b:List Int) (c:Int) (d:Bool) (e:List Int):Option ((List (List Int))×Int×Int):=
 (Zek a b c d).bind fun x0=>
 bif (x0.2 != 0) then
  some (([]:List (List Int)),0,x0.2)
 else
  (lp (Zea x0) (0,0)).bind fun r3=>
  bif (decide (4096<r3)) then
   some (([]:List (List Int)),0,190)
  else
   (lp (Zdn a) (e,x0.1.stealing,x0.1.demand,x0.1.state,x0.1.gang.crew.on,x0.1.gang.crew.left,x0.1.gang.deques,x0.1.gang.takers,x0.1.gang.from_,([]:(List (List Int))))).bind fun r6=>
   match r6 with
   | (.inl r6)=>
    some (([]:List (List Int)),0,r6.1)
   | (.inr r6)=>
    some (r6.2.2.2.2.2.2.2.2,r6.2.2.1,0)
def ZgL (a:Zi):Option (List Int):=
 (Zbz a).bind fun x0=>
 bif (x0 != 0) then
  some ([]:List Int)
 else
  (Zdy a).bind fun x1=>
  bif x1.2 then
   some x1.1
  else
   some x1.1
def Zdf (a:Zt) (b0:Int):Option (Int×Bool):=
 bif (a.dst==b0) then
  some (a.src,true)
 else
  some (a.src,false)
def ZgQ (a:Zi) (b:Int):Option (List Int):=
 (Zf4 a (fun z0=>Zdf z0 b)).bind fun x0=>
 some x0
def Zdj (x2:Int) (x3:List Int) (s4:Int×(List Int)):Option ((Int×(List Int))⊕(List Int)):=
 bif (decide (s4.1<(x3.length:Int))) then
  (ZK x3 s4.1).bind fun x5=>
  (ZK s4.2 x2).bind fun x6=>
  (ZK s4.2 x5).bind fun x7=>
  some (.inl ((w64 (s4.1+1)),(List.set s4.2 x2.toNat (bif decide (x6<x7) then x7 else x6))))
 else
  some (.inr s4.2)
def Zdm (a:Zi) (x0:List Int) (s1:Int×Int×(List Int)):Option ((Int×Int×(List Int))⊕Int):=
 bif (decide (s1.2.1<(x0.length:Int))) then
  (ZK x0 s1.2.1).bind fun x2=>
  (ZgQ a x2).bind fun x3=>
  (lp (Zdj x2 x3) (0,s1.2.2)).bind fun r8=>
  (ZK r8 x2).bind fun x9=>
  (ZK a.work x2).bind fun x10=>
  (ZK (List.set r8 x2.toNat (w64 (x9+x10))) x2).bind fun x11=>
  some (.inl ((bif decide (s1.1<x11) then x11 else s1.1),(w64 (s1.2.1+1)),(List.set r8 x2.toNat (w64 (x9+x10)))))
 else
  some (.inr s1.1)
def Zgl (a:Zi):Option Int:=
 bif (decide (0≤(a.work.length:Int))&&decide ((a.work.length:Int)≤lim)&&decide ((a.work.length:Int)==(a.work.length:Int))) then
  (ZgL a).bind fun x0=>
  (lp (Zdm a x0) (0,0,(List.replicate (a.work.length:Int).toNat (0:Int)))).bind fun r12=>
  some r12
 else
  none
def Zfe (a:Zi) (b:List Int) (c:Int):Option Int:=
 (Zd6 a b c).bind fun x0=>
 bif x0.1 then
  bif (x0.2 != 0) then
   some 0
  else
   (ZcV (Zi.mk b a.edges)).bind fun x1=>
   (Zgl (Zi.mk b a.edges)).bind fun x2=>
   bif (c==0) then
    none
   else
    some (w64 (Int.tdiv (w64 (x1+(w64 ((w64 (c-1))*x2)))) c))
 else
  some 0
def ZeG (a:Zi) (b:List Int) (c:Int) (d:Bool) (e:List Int):Option Bool:=
 Zdl.bind fun x0=>
 bif x0 then
  (ZeE a b).bind fun x1=>
  bif x1 then
   bif (decide (600<(e.length:Int))) then
    Zdl.bind fun x2=>
    bif x2 then
     some true
    else
     some false
   else
    (ZcW a).bind fun x3=>
    (ZdM b).bind fun x4=>
    (ZdM e).bind fun x5=>
    (Ze4 a b c d e).bind fun x6=>
    bif (x6.2.2 != 0) then
     bif ((x6.1.length:Int)==0) then
      some true
     else
      some false
    else
     (ZcW a).bind fun x7=>
     (ZcV a).bind fun x8=>
     (ZcW a).bind fun x9=>
     (Zgl a).bind fun x10=>
     bif (decide ((w64 (c*(x6.1.length:Int)))≤(w64 (x8+(w64 ((w64 (c-1))*x10)))))) then
      (ZcW a).bind fun x11=>
      (ZdM a.work).bind fun x12=>
      (Zfe a a.work c).bind fun x13=>
      bif (decide ((x6.1.length:Int)≤x13)) then
       some true
      else
       some false
     else
      some false
  else
   Zdl.bind fun x14=>
   bif x14 then
    some true
   else
    some false
 else
  Zdl.bind fun x15=>
  bif x15 then
   some true
  else
   some false
end
def Zxk (n a b:Int):Bool:=decide (a≤n)&&decide (n≤b)
theorem Zi6 {γ:Type} (l:List γ) (p:γ→Bool) (step:Int→Option (Int⊕(Int⊕Unit)))
  (h1:∀i x,i<l.length→l[i]? = some x→step (i:Int)=some (bif p x then .inr (.inl (i:Int)) else .inl ((i+1:Nat):Int)))
  (h2:step (l.length:Int)=some (.inr (.inr ()))) :
  (((lp step 0).bind fun(r:Int⊕Unit)=>match r with | .inl r=>some r | .inr _=>some (-1)).bind fun x=>bif decide (0≤x) then some true else some false)=some (l.any p):=by
 rw[Zju l step (fun _=>p) (fun i _=>.inl (i:Int)) (.inr ()) h1 h2]
 rcases Zoj p () l 0 with⟨j,e1,e2⟩ | ⟨e1,e2⟩
 ·rw[e1,e2]
  show(bif decide ((0:Int)≤(j:Int)) then some true else some false)=some true
  rw[decide_eq_true (by omega)]
  rfl
 ·rw[e1,e2]
  rfl
def Zrn (e x:Zt):Bool:=e.src==x.src&&(e.dst==x.dst&&true)
theorem Zvl (l:List Zt) (e:Zt) (hl:l.length<9223372036854775808):Zaq l e=some (l.any (Zrn e)):=by
 unfold Zaq ZbE
 refine Zi6 l (Zrn e) _ (fun i x hi hx=>?_) ?_
 ·simp only[Zan,Zd1 hi,ZE hx,Option.bind_some,Z0 hi hl,cond_true,Zrn]
  cases (e.src==x.src&&(e.dst==x.dst&&true))<;>rfl
 ·simp only[Zan,Zd7];rfl
def again (f g:ZtA):Bool:=g.user==f.user&&g.pos==f.pos
theorem Zjn (l:List Int) (n:Int) (hl:l.length<9223372036854775808):ZG l n=some (l.any (fun x=>n==x)):=by
 unfold ZG Zcr
 refine Zi6 l (fun x=>n==x) _ (fun i x hi hx=>?_) ?_
 ·simp only[ZaE,Zd1 hi,ZE hx,Option.bind_some,Z0 hi hl,cond_true]
  cases (n==x)<;>rfl
 ·simp only[ZaE,Zd7];rfl
theorem Zd8 (l:List Int) (f:Int→Option Bool) (p:Int→Bool) (hf:∀x∈l,f x=some (p x)) (hl:l.length<9223372036854775808):Zw l f=some (l.any p):=by
 unfold Zw ZB
 refine Zi6 l p _ (fun i x hi hx=>?_) ?_
 ·simp only[Zv,Zd1 hi,ZE hx,Option.bind_some,hf x (List.mem_of_getElem? hx),Z0 hi hl,cond_true]
  cases p x<;>rfl
 ·simp only[Zv,Zd7];rfl
def two (n:Nat) (a b:Int):Bool:=(a != b)&&(Zxk a 0 (n-1)&&Zxk b 0 (n-1))
def ZiW (n:Int):Int:=bif decide (n<0) then 10 else bif decide (1099511627775<n) then 11 else 0
theorem Znv (n:Int):Zfi n=some (ZiW n):=by
 unfold Zfi ZiW
 cases decide (n<0)<;>cases decide (1099511627775<n)<;>rfl
noncomputable def Zus (x:Int):Int:=match Zbc x with | some n=>n | none=>0
theorem ZAd (x:Int):ZbP x=some (Zus x):=by
 unfold ZbP Zus Zbc
 rfl
def ZAC (n:Nat):Bool:=[1,2,4,8,16,32,64,128,256,512,1024,2048,4096].contains n
theorem Zs8:((List.range 4097).all fun n=>(Zus (u64.wrap (n:Int))==1)==ZAC n)=true:=by kernel_rfl
theorem Ztv (n:Nat) (h:n≤4096):(Zus (u64.wrap (n:Int))==1)=ZAC n:=by
 have:=List.all_eq_true.1 Zs8 n (by simp;omega)
 simpa using this
noncomputable def Zw4 (n:Int):Bool:=!(ZiW n != 0) && !(Zus (u64.wrap n) != 1)
theorem ZvK (n:Int):Zf6 n=some (bif Zw4 n then .inr () else .inl ()):=by
 have tz:ZaL (u64.wrap n)=some ():=by
  unfold ZaL Zbq
  cases u64.wrap n==0<;>rfl
 unfold Zf6 Zw4
 simp only[Znv,ZAd,Option.bind_some,tz]
 cases (ZiW n != 0)
 ·cases (Zus (u64.wrap n) != 1)<;>rfl
 ·rfl
theorem Ztc (n:Nat) (h:n≤4096):Zw4 (n:Int)=ZAC n:=by
 have h1:(ZiW (n:Int) != 0)=false:=by
  unfold ZiW
  rw[decide_eq_false (show ¬((n:Int)<0) by omega),decide_eq_false (show ¬((1099511627775:Int)<n) by omega)]
  rfl
 rw[← Ztv n h]
 unfold Zw4
 rw[h1]
 unfold bne
 rw[Bool.not_not]
 rfl
def ZAO (b:ZrG):Prop:=b.ins.length<9223372036854775808∧b.outs.length<9223372036854775808
structure ZzX (d:ZvY):Prop where
 p:d.parts.length<9223372036854775808
 e:d.edges.length<9223372036854775808
 f:d.futures.length<9223372036854775808
 b:d.barriers.length<9223372036854775808
 i:∀b∈d.barriers,ZAO b
theorem Zs5 {γ:Type}{l:List γ}{i n:Nat} (h:l.length<n):(l.take i).length<n:=by rw[List.length_take];omega
def Zi0 (n:Nat) (x:Int):Bool:=decide (0≤x)&&decide (x<(n:Int))
def ZhI {γ S:Type} (f:Nat→S→γ→S):Nat→S→List γ→S
 | _,s,[]=>s
 | i,s,x :: l=>ZhI f (i+1) (f i s x) l
theorem ZrB {γ S T R:Type} (l:List γ) (step:T→Option (T⊕R)) (st:Nat→S→T) (f:Nat→S→γ→S) (fin:S→R) (I:Nat→S→Prop)
  (h1:∀i x s,i<l.length→l[i]? = some x→I i s→step (st i s)=some (.inl (st (i+1) (f i s x)))∧I (i+1) (f i s x))
  (h2:∀s,I l.length s→step (st l.length s)=some (.inr (fin s))) (s:S) (h0:I 0 s) :
  lp step (st 0 s)=some (fin (ZhI f 0 s l))∧I l.length (ZhI f 0 s l):=by
 have key:∀(k i:Nat) (s:S),i+k=l.length→I i s→lp step (st i s)=some (fin (ZhI f i s (l.drop i)))∧I l.length (ZhI f i s (l.drop i)):=by
  intro k
  induction k with
  | zero=>
   intro i s hi hI
   have:i=l.length:=by omega
   subst this
   rw[List.drop_length,Za7,h2 s hI]
   exact⟨rfl,hI⟩
  | succ k ih=>
   intro i s hi hI
   have hi':i<l.length:=by omega
   obtain⟨e,hI'⟩:=h1 i l[i] s hi' (List.getElem?_eq_getElem hi') hI
   rw[List.drop_eq_getElem_cons hi',Za7,e]
   exact ih (i+1) _ (by omega) hI'
 have:=key l.length 0 s (by omega) h0
 rwa [List.drop_zero] at this
def Zeb (w:Int):Bool:=decide (w<0) || decide (1000<w)
def ZjM (g:Zi) (i:Nat) (e:Zt):Bool:=!(Zi0 g.work.length e.src) || (!(Zi0 g.work.length e.dst) || ((e.src==e.dst) || (g.edges.take i).any (Zrn e)))
def Ze6 (g:Zi):Int:=bif decide (64<(g.work.length:Int)) || decide (256<(g.edges.length:Int)) then 40 else bif g.work.any Zeb then 41 else bif ZjT (ZjM g) 0 g.edges then 42 else 0
structure Zgt (g:Zi):Prop where
 w:g.work.length<9223372036854775808
 e:g.edges.length<9223372036854775808
theorem ZvD (w:Int):ZbA w=some (Zeb w):=by
 unfold ZbA Zeb
 cases decide (w<0)<;>cases decide (1000<w)<;>rfl
theorem Zxl (a:Int) (l:List Int):Zd5 a l=some (Zi0 l.length a):=by
 unfold Zd5 Zi0
 cases decide (0≤a)<;>cases decide (a<(l.length:Int))<;>rfl
theorem Zsw (g:Zi) (h:Zgt g):lp (ZcQ g) 0=some (bif ZjT (ZjM g) 0 g.edges then .inl () else .inr ()):=by
 have key:=Zju g.edges (ZcQ g) (ZjM g) (fun _ _=>.inl ()) (.inr ()) (fun i x hi hx=>by
   have e0:decide ((0:Int)≤(i:Int))=true:=decide_eq_true (by omega)
   have e1:Nat.ble i g.edges.length=true:=Nat.ble_eq_true_of_le (by omega)
   simp only[ZcQ,Zd1 hi,ZE hx,Option.bind_some,Z0 hi h.e,cond_true,Zxl,ZjM,e0,Int.toNat_natCast,e1,Zvl _ x (Zs5 h.e)]
   cases Zi0 g.work.length x.src<;>cases Zi0 g.work.length x.dst<;>cases (x.src==x.dst)<;>cases (g.edges.take i).any (Zrn x)<;>rfl) (by simp only[ZcQ,Zd7];rfl)
 rw[key,Zh7]
inductive Way (g:Zi):Int→Int→Prop
 | one {e:Zt}:e∈g.edges→Way g e.src e.dst
 | more {a:Int} {e:Zt}:Way g a e.src→e∈g.edges→Way g a e.dst
theorem Way.trans {g:Zi}{a b c:Int} (h1:Way g a b) (h2:Way g b c):Way g a c:=by
 induction h2 with
 | one he=>exact Way.more h1 he
 | more _ he ih=>exact Way.more (ih h1) he
def ZjJ (g:Zi):Prop:=∀a,¬Way g a a
structure Zdb (g:Zi):Prop where
 wl:g.work.length≤64
 el:g.edges.length≤256
 w:∀x∈g.work,0≤x∧x≤1000
 src:∀e∈g.edges,0≤e.src∧e.src.toNat<g.work.length
 dst:∀e∈g.edges,0≤e.dst∧e.dst.toNat<g.work.length
theorem Zdb.short {g:Zi} (h:Zdb g):Zgt g:=⟨by have:=h.wl;omega,by have:=h.el;omega⟩
theorem Zp7 {n:Nat}{a:Int} (h:Zi0 n a=true):0≤a∧a.toNat<n:=by
 unfold Zi0 at h
 simp only[Bool.and_eq_true,decide_eq_true_eq] at h
 omega
theorem Zru {g:Zi} (h:Ze6 g=0):Zdb g:=by
 unfold Ze6 at h
 cases h1:decide (64<(g.work.length:Int)) with
 | true=>rw[h1] at h;simp at h
 | false=>
 cases h2:decide (256<(g.edges.length:Int)) with
 | true=>rw[h1,h2] at h;simp at h
 | false=>
 cases h3:g.work.any Zeb with
 | true=>rw[h1,h2,h3] at h;simp at h
 | false=>
 cases h4:ZjT (ZjM g) 0 g.edges with
 | true=>rw[h1,h2,h3,h4] at h;simp at h
 | false=>
 have hE:∀e∈g.edges,∃i,ZjM g i e=false:=fun e he=>by
  obtain⟨i,hi⟩:=List.getElem?_of_mem he
  refine⟨i,?_⟩
  cases hb:ZjM g i e with
  | false=>rfl
  | true=>rw[(ZrH _ _ 0).2 ⟨i,e,hi,by simpa using hb⟩] at h4;cases h4
 refine⟨by have:=of_decide_eq_false h1;omega,by have:=of_decide_eq_false h2;omega,fun x hx=>?_,fun e he=>?_,fun e he=>?_⟩
 ·have:=List.any_eq_false.1 h3 x hx
  unfold Zeb at this
  simp only[Bool.or_eq_true,decide_eq_true_eq,not_or] at this
  omega
 ·obtain⟨i,hi⟩:=hE e he
  unfold ZjM at hi
  simp only[Bool.or_eq_false_iff,Bool.not_eq_false'] at hi
  exact Zp7 hi.1
 ·obtain⟨i,hi⟩:=hE e he
  unfold ZjM at hi
  simp only[Bool.or_eq_false_iff,Bool.not_eq_false'] at hi
  exact Zp7 hi.2.1
theorem Way.src_in {g:Zi} (h:Zdb g) {a b:Int} (w:Way g a b):0≤a∧a.toNat<g.work.length:=by
 induction w with
 | one he=>exact h.src _ he
 | more _ _ ih=>exact ih
theorem ZrW {g:Zi} (hg:ZjJ g):∀(n:Nat) (S:List Int),S.length≤n→S≠[]→∃m∈S,∀e∈g.edges,e.dst=m→e.src∉S:=by
 intro n
 induction n with
 | zero=>intro S h1 h2;exact absurd (List.length_eq_zero_iff.1 (by omega)) h2
 | succ n ih=>
  intro S h1 h2
  obtain⟨m,hm⟩:=List.exists_mem_of_ne_nil S h2
  classical
  by_cases hS:(S.filter fun x=>decide (Way g x m))=[]
  ·refine⟨m,hm,fun e he hd hs=>?_⟩
   have:e.src∈S.filter fun x=>decide (Way g x m):=List.mem_filter.2 ⟨hs,decide_eq_true (hd ▸ Way.one he)⟩
   rw[hS] at this
   cases this
  ·have hlt:(S.filter fun x=>decide (Way g x m)).length<S.length:=by
    refine Nat.lt_of_le_of_ne (List.length_filter_le _ _) fun he=>?_
    have:=List.length_filter_eq_length_iff.1 he m hm
    exact hg m (of_decide_eq_true this)
   obtain⟨k,hk,hk2⟩:=ih _ (by omega) hS
   obtain⟨k1,k2⟩:=List.mem_filter.1 hk
   refine⟨k,k1,fun e he hd hs=>hk2 e he hd (List.mem_filter.2 ⟨hs,decide_eq_true ?_⟩)⟩
   exact(hd ▸ Way.one he:Way g e.src k).trans (of_decide_eq_true k2)
def bAt (l:List Bool) (z:Int):Bool:=match l[z.toNat]? with | some b=>b | none=>false
def Zmv (g:Zi) (done:List Bool) (i:Nat):Bool:=!(bAt done (i:Int)) && !(g.edges.any fun e=>(e.dst==(i:Int)) && !(bAt done e.src))
def ZmA (g:Zi) (done:List Bool):Option Nat:=Zip (fun i _=>Zmv g done i) (fun i _=>some i) none 0 g.work
def ZlF (g:Zi):Nat→List Int→List Bool→Option (List Int)
 | 0,out,_=>some out
 | k+1,out,done=>(match ZmA g done with | some i=>ZlF g k (out++[(i:Int)]) (done.set i true) | none=>none)
theorem ZrU {γ R S:Type} (p:Nat→γ→Bool) (out:Nat→γ→R) (fin:R) (F:R→S):∀(l:List γ) (i:Nat),F (Zip p out fin i l)=Zip p (fun i x=>F (out i x)) (F fin) i l
 | [],i=>rfl
 | x :: l,i=>by
  unfold Zip
  cases p i x with
  | true=>rfl
  | false=>exact ZrU p out fin F l (i+1)
theorem Zql {γ:Type} (p:Nat→γ→Bool):∀(l:List γ) (i k:Nat),Zip p (fun i _=>some i) none i l=some k→i≤k∧k<i+l.length∧∃x,l[k-i]? = some x∧p k x=true
 | [],i,k,h=>by cases h
 | x :: l,i,k,h=>by
  unfold Zip at h
  cases hp:p i x with
  | true=>
   rw[hp] at h
   cases h
   exact⟨Nat.le_refl _,by simp,x,by simp,hp⟩
  | false=>
   rw[hp] at h
   obtain⟨h1,h2,y,h3,h4⟩:=Zql p l (i+1) k h
   refine⟨by omega,by simp only[List.length_cons];omega,y,?_,h4⟩
   rw[show k-i=(k-(i+1))+1 by omega]
   exact h3
theorem ZpX {γ:Type} (p:Nat→γ→Bool):∀(l:List γ) (i:Nat),Zip p (fun i _=>some i) none i l=none→∀(j:Nat) x,l[j]? = some x→p (i+j) x=false
 | [],i,h,j,x,hx=>by cases hx
 | y :: l,i,h,j,x,hx=>by
  unfold Zip at h
  cases hp:p i y with
  | true=>rw[hp] at h;cases h
  | false=>
   rw[hp] at h
   cases j with
   | zero=>cases hx;exact hp
   | succ j=>
    have:=ZpX p l (i+1) h j x hx
    rwa [show i+1+j=i+(j+1) by omega] at this
theorem Zt0 {g:Zi}{done:List Bool} (hd:done.length=g.work.length) {z:Int} (h:0≤z∧z.toNat<g.work.length):ZK done z=some (bAt done z):=by
 have e:=List.getElem?_eq_getElem (show z.toNat<done.length by rw[hd];exact h.2)
 rw[Zrf h.1 e]
 unfold bAt
 rw[e]
theorem ZAe {g:Zi} (h:Zdb g) (out:List Int) (ho:out.length<g.work.length) (done:List Bool) (hd:done.length=g.work.length) :
  lp (ZcA g (out,done)) 0=some (match ZmA g done with | some i=>.inl (out++[(i:Int)],done.set i true) | none=>.inr ()):=by
 have key:=Zju g.work (ZcA g (out,done)) (fun i _=>Zmv g done i) (fun i _=>.inl (out++[(i:Int)],done.set i true)) (.inr ()) (fun i x hi hx=>by
   have inner:=Zju g.edges (ZdI g (out,done) (i:Int)) (fun _ e=>(e.dst==(i:Int)) && !(bAt done e.src)) (fun _ _=>.inl ()) (.inr ()) (fun k e hk he=>by
     simp only[ZdI,Zd1 hk,ZE he,Option.bind_some,Z0 hk h.short.e,cond_true,Zt0 hd (h.src e (List.mem_of_getElem? he))]
     cases (e.dst==(i:Int))<;>cases bAt done e.src<;>rfl) (by simp only[ZdI,Zd7];rfl)
   rw[Zh7,Zrp] at inner
   have hl:=h.wl
   simp only[ZcA,Zd1 hi,Zt0 hd (z:=(i:Int)) ⟨by omega,by simpa using hi⟩,Option.bind_some,Z0 hi h.short.w,cond_true,inner,Zew (show out.length+1≤1073741824 by omega),Int.toNat_natCast,Zmv]
   cases bAt done (i:Int)<;>cases g.edges.any (fun e=>(e.dst==(i:Int)) && !(bAt done e.src))<;>rfl) (by simp only[ZcA,Zd7];rfl)
 rw[key]
 unfold ZmA
 exact congrArg some (ZrU (fun i _=>Zmv g done i) (fun i _=>some i) none (fun o:Option Nat=>(match o with | some i=>(.inl (out++[(i:Int)],done.set i true):(List Int×List Bool)⊕Unit) | none=>.inr ())) g.work 0).symm
theorem Zuj {g:Zi} (h:Zdb g):∀(k:Nat) (out:List Int) (done:List Bool),out.length+k=g.work.length→done.length=g.work.length →
  ∃r,lp (ZdJ g) (out,done)=some r∧(match ZlF g k out done with | some l=>r = .inr l | none=>∃l,r = .inl l)
 | 0,out,done,h1,h2=>by
  rw[Za7]
  simp only[ZdJ,show out.length=g.work.length by omega,Zd7,cond_false]
  exact⟨_,rfl,rfl⟩
 | k+1,out,done,h1,h2=>by
  rw[Za7]
  simp only[ZdJ,Zd1 (show out.length<g.work.length by omega),cond_true,ZAe h out (by omega) done h2,Option.bind_some]
  unfold ZlF
  cases ZmA g done with
  | none=>exact⟨_,rfl,_,rfl⟩
  | some i=>exact Zuj h k (out++[(i:Int)]) (done.set i true) (by rw[List.length_append];simp only[List.length_cons,List.length_nil];omega) (by rw[List.length_set];exact h2)
theorem Zub {g:Zi} (h:Zdb g):Zdy g=some (match ZlF g g.work.length [] (List.replicate g.work.length false) with | some l=>(l,true) | none=>([],false)):=by
 obtain⟨r,e,hr⟩:=Zuj h g.work.length [] (List.replicate g.work.length false) (by simp) (by simp)
 have hl:=h.wl
 unfold Zdy
 rw[decide_eq_true (show(0:Int)≤(g.work.length:Int) by omega),decide_eq_true (show(g.work.length:Int)≤lim by show(g.work.length:Int)≤1073741824;omega),beq_self_eq_true]
 simp only[decide_true,Bool.and_true,cond_true,Int.toNat_natCast,e,Option.bind_some]
 cases ho:ZlF g g.work.length [] (List.replicate g.work.length false) with
 | some l=>rw[ho] at hr;simp only at hr;subst hr;rfl
 | none=>rw[ho] at hr;obtain⟨l,rfl⟩:=hr;rfl
structure ZdN (g:Zi) (out:List Int) (done:List Bool):Prop where
 dl:done.length=g.work.length
 mem:∀i:Nat,bAt done (i:Int)=true↔(i:Int)∈out
 inn:∀z∈out,0≤z∧z.toNat<g.work.length
 nod:out.Nodup
 topo:∀(i:Nat) (n:Int),out[i]? = some n→∀e∈g.edges,e.dst=n→∃j,j<i∧out[j]? = some e.src
theorem ZyS {done:List Bool}{i:Nat} (hi:i<done.length) (z:Int) (hz:0≤z):bAt (done.set i true) z=(decide (z=(i:Int)) || bAt done z):=by
 unfold bAt
 rw[List.getElem?_set]
 by_cases h:i=z.toNat
 ·subst h
  rw[if_pos rfl,if_pos hi,decide_eq_true (show z=((z.toNat:Nat):Int) by omega)];rfl
 ·rw[if_neg h,decide_eq_false (show ¬z=(i:Int) by omega)];rfl
theorem ZdN.start (g:Zi):ZdN g [] (List.replicate g.work.length false):=by
 refine⟨by simp,fun i=>?_,by simp,by simp,by simp⟩
 unfold bAt
 rw[List.getElem?_replicate]
 by_cases h:((i:Int)).toNat<g.work.length
 ·rw[if_pos h];simp
 ·rw[if_neg h];simp
theorem ZdN.next {g:Zi} (h:Zdb g) {out:List Int}{done:List Bool} (o:ZdN g out done) {i:Nat} (hn:ZmA g done=some i):ZdN g (out++[(i:Int)]) (done.set i true):=by
 obtain⟨_,hi,x,_,hp⟩:=Zql _ _ _ _ hn
 rw[Nat.zero_add] at hi
 unfold Zmv at hp
 simp only[Bool.and_eq_true,Bool.not_eq_true',List.any_eq_false,Bool.not_eq_true] at hp
 have hid:i<done.length:=by rw[o.dl];exact hi
 have hnot:(i:Int)∉out:=fun hm=>by have:=(o.mem i).2 hm;rw[hp.1] at this;cases this
 refine⟨by rw[List.length_set];exact o.dl,fun j=>?_,fun z hz=>?_,?_,fun k n hk e he hd=>?_⟩
 ·rw[ZyS hid (j:Int) (by omega),Bool.or_eq_true,decide_eq_true_eq,o.mem,List.mem_append,List.mem_singleton]
  exact Or.comm
 ·rcases List.mem_append.1 hz with hz | hz
  ·exact o.inn z hz
  ·rw[List.mem_singleton] at hz;subst hz;exact⟨by omega,by simpa using hi⟩
 ·rw[List.nodup_append]
  refine⟨o.nod,by simp,fun a ha b hb=>?_⟩
  rw[List.mem_singleton] at hb
  subst hb
  exact fun hab=>hnot (hab ▸ ha)
 ·rcases Nat.lt_or_ge k out.length with hk2 | hk2
  ·rw[List.getElem?_append_left hk2] at hk
   obtain⟨j,h1,h2⟩:=o.topo k n hk e he hd
   exact⟨j,h1,by rw[List.getElem?_append_left (by omega)];exact h2⟩
  ·rw[List.getElem?_append_right hk2] at hk
   have hk0:k-out.length=0:=by
    rcases Nat.eq_zero_or_pos (k-out.length) with h0 | h0
    ·exact h0
    ·rw[List.getElem?_eq_none (by simp only[List.length_cons,List.length_nil];omega)] at hk;cases hk
   rw[hk0] at hk
   simp only[List.getElem?_cons_zero,Option.some.injEq] at hk
   subst hk
   have hs:=hp.2 e he
   rw[hd] at hs
   have hs:bAt done e.src=true:=by simpa using hs
   have hsr:=h.src e he
   have:=(o.mem e.src.toNat).1 (by rw[show((e.src.toNat:Nat):Int)=e.src by omega];exact hs)
   rw[show((e.src.toNat:Nat):Int)=e.src by omega] at this
   obtain⟨j,hj⟩:=List.getElem?_of_mem this
   have hjl:=(List.getElem?_eq_some_iff.1 hj).1
   exact⟨j,by omega,by rw[List.getElem?_append_left hjl];exact hj⟩
theorem ZdN.way {g:Zi}{out:List Int}{done:List Bool} (o:ZdN g out done) {a b:Int} (w:Way g a b):∀j:Nat,out[j]? = some b→∃i,i<j∧out[i]? = some a:=by
 induction w with
 | one he=>intro j hj;exact o.topo j _ hj _ he rfl
 | more _ he ih=>
  intro j hj
  obtain⟨i,h1,h2⟩:=o.topo j _ hj _ he rfl
  obtain⟨k,h3,h4⟩:=ih i h2
  exact⟨k,by omega,h4⟩
theorem Zmm {l:List Int} (h:l.Nodup) {i j:Nat}{a:Int} (h1:l[i]? = some a) (h2:l[j]? = some a):i=j:=by
 obtain⟨a1,a2⟩:=List.getElem?_eq_some_iff.1 h1
 obtain⟨b1,b2⟩:=List.getElem?_eq_some_iff.1 h2
 exact(List.getElem_inj h).1 (a2.trans b2.symm)
def Zxx (n:Nat) (done:List Bool):List Int:=((List.range n).filter fun i:Nat=>!bAt done (i:Int)).map fun i:Nat=>(i:Int)
theorem ZoB {n:Nat}{done:List Bool}{i:Nat} (h1:i<n) (h2:bAt done (i:Int)=false):(i:Int)∈Zxx n done:=
 List.mem_map.2 ⟨i,List.mem_filter.2 ⟨List.mem_range.2 h1,by rw[h2];rfl⟩,rfl⟩
theorem Zvo {g:Zi} (h:Zdb g) (hg:ZjJ g) {out:List Int}{done:List Bool} (o:ZdN g out done) (i0:Nat) (hi0:i0<g.work.length) (hb:bAt done (i0:Int)=false):∃i,ZmA g done=some i:=by
 cases hn:ZmA g done with
 | some i=>exact⟨i,rfl⟩
 | none=>
  exfalso
  have hall:=ZpX _ _ _ hn
  obtain⟨m,hm,hm2⟩:=ZrW hg _ (Zxx g.work.length done) (Nat.le_refl _) (by
   intro he
   have:=ZoB hi0 hb
   rw[he] at this;cases this)
  obtain⟨k,hk,rfl⟩:=List.mem_map.1 hm
  obtain⟨hk1,hk2⟩:=List.mem_filter.1 hk
  rw[List.mem_range] at hk1
  have hr:=hall k g.work[k] (List.getElem?_eq_getElem hk1)
  rw[Nat.zero_add] at hr
  unfold Zmv at hr
  rw[hk2,Bool.true_and,Bool.not_eq_false',List.any_eq_true] at hr
  obtain⟨e,he,he2⟩:=hr
  simp only[Bool.and_eq_true,beq_iff_eq] at he2
  have hsr:=h.src e he
  refine hm2 e he he2.1 ?_
  have es:((e.src.toNat:Nat):Int)=e.src:=by omega
  rw[← es]
  exact ZoB hsr.2 (by rw[es];simpa using he2.2)
theorem ZxP {n:Nat}{out:List Int} (h1:out.Nodup) (h2:∀z∈out,0≤z∧z.toNat<n):(out.length≤n)∧(out.length=n→∀i:Nat,i<n→(i:Int)∈out):=by
 induction n generalizing out with
 | zero=>
  refine⟨?_,fun _ i hi=>absurd hi (by omega)⟩
  cases out with
  | nil=>simp
  | cons z l=>have:=h2 z (by simp);omega
 | succ n ih=>
  by_cases hm:(n:Int)∈out
  ·have e1:(out.erase (n:Int)).length=out.length-1:=List.length_erase_of_mem hm
   have pos:0<out.length:=List.length_pos_of_mem hm
   obtain⟨a,b⟩:=ih (out:=out.erase (n:Int)) (h1.erase _) (fun z hz=>by
    have hz2:=(List.Nodup.mem_erase_iff h1).1 hz
    have:=h2 z hz2.2
    have:=hz2.1
    omega)
   refine⟨by omega,fun hl i hi=>?_⟩
   by_cases hin:i=n
   ·subst hin;exact hm
   ·exact List.mem_of_mem_erase (b (by omega) i (by omega))
  ·obtain⟨a,b⟩:=ih (out:=out) h1 (fun z hz=>by
    have:=h2 z hz
    have:z≠(n:Int):=fun he=>hm (he ▸ hz)
    omega)
   exact⟨by omega,fun hl=>by omega⟩
theorem ZxN:∀(n:Nat) (out:List Int),(∀i:Nat,i<n→(i:Int)∈out)→n≤out.length
 | 0,out,h=>by omega
 | n+1,out,h=>by
  have hm:=h n (by omega)
  have e1:(out.erase (n:Int)).length=out.length-1:=List.length_erase_of_mem hm
  have pos:0<out.length:=List.length_pos_of_mem hm
  have:=ZxN n (out.erase (n:Int)) (fun i hi=>(List.mem_erase_of_ne (by omega)).2 (h i (by omega)))
  omega
theorem Zj8 {g:Zi} (h:Zdb g):∀(k:Nat) (out:List Int) (done:List Bool),ZdN g out done→out.length+k=g.work.length→(∀l,ZlF g k out done=some l→∃done',ZdN g l done'∧l.length=g.work.length)∧(ZjJ g→∃l,ZlF g k out done=some l)
 | 0,out,done,o,hl=>⟨fun l h=>by cases h;exact⟨done,o,by omega⟩,fun _=>⟨out,rfl⟩⟩
 | k+1,out,done,o,hl=>by
  unfold ZlF
  cases hn:ZmA g done with
  | none=>
   refine⟨fun l h=>(by cases h),fun hg=>?_⟩
   exfalso
   have hex:∃i0,i0<g.work.length∧(i0:Int)∉out:=by
    apply Classical.byContradiction
    intro hc
    have hc2:∀i0,i0<g.work.length→(i0:Int)∈out:=fun i0 hi=>Classical.byContradiction fun hx=>hc ⟨i0,hi,hx⟩
    have sub:=ZxN g.work.length out hc2
    omega
   obtain⟨i0,h1,h2⟩:=hex
   obtain⟨i,hi⟩:=Zvo h hg o i0 h1 (by
    cases hb:bAt done (i0:Int) with
    | false=>rfl
    | true=>exact absurd ((o.mem i0).1 hb) h2)
   rw[hn] at hi
   cases hi
  | some i=>
   exact Zj8 h k _ _ (o.next h hn) (by rw[List.length_append];simp only[List.length_cons,List.length_nil];omega)
theorem Zyi {g:Zi} (h:Zdb g) {l:List Int}{done:List Bool} (o:ZdN g l done) (hl:l.length=g.work.length):ZjJ g:=by
 intro a w
 have ha:=w.src_in h
 have hm:=(ZxP o.nod o.inn).2 hl a.toNat ha.2
 rw[show((a.toNat:Nat):Int)=a by omega] at hm
 obtain⟨j,hj⟩:=List.getElem?_of_mem hm
 obtain⟨i,h1,h2⟩:=o.way w j hj
 have:=Zmm o.nod h2 hj
 omega
structure ZB1 (g:Zi) (l:List Int):Prop where
 len:l.length=g.work.length
 all:∀i:Nat,i<g.work.length→(i:Int)∈l
 inn:∀z∈l,0≤z∧z.toNat<g.work.length
 nod:l.Nodup
 topo:∀(i:Nat) (n:Int),l[i]? = some n→∀e∈g.edges,e.dst=n→∃j,j<i∧l[j]? = some e.src
theorem ZpM {g:Zi} (h:Zdb g) (hg:ZjJ g):∃l,Zdy g=some (l,true)∧ZB1 g l:=by
 obtain⟨k1,k2⟩:=Zj8 h g.work.length [] _ (ZdN.start g) (by simp)
 obtain⟨l,hl⟩:=k2 hg
 obtain⟨done,o,hn⟩:=k1 l hl
 exact⟨l,by rw[Zub h,hl],hn,(ZxP o.nod o.inn).2 hn,o.inn,o.nod,o.topo⟩
theorem Zx6 {g:Zi} (h:Zdb g) (hg:¬ZjJ g):Zdy g=some ([],false):=by
 rw[Zub h]
 cases ho:ZlF g g.work.length [] (List.replicate g.work.length false) with
 | none=>rfl
 | some l=>
  obtain⟨done,o,hn⟩:=(Zj8 h g.work.length [] _ (ZdN.start g) (by simp)).1 l ho
  exact absurd (Zyi h o hn) hg
noncomputable def Zv6 (g:Zi):Bool:=@decide (ZjJ g) (Classical.propDecidable _)
theorem Zt3 {g:Zi} (h:ZjJ g):Zv6 g=true:=@decide_eq_true _ (Classical.propDecidable _) h
theorem ZtN {g:Zi} (h:¬ZjJ g):Zv6 g=false:=@decide_eq_false _ (Classical.propDecidable _) h
noncomputable def ZL (g:Zi):Int:=bif Ze6 g==0 then (bif Zv6 g then 0 else 43) else Ze6 g
theorem ZQ {g:Zi} (h:ZL g=0):Zdb g∧ZjJ g:=by
 unfold ZL at h
 by_cases h0:Ze6 g=0
 ·rw[h0] at h
  refine⟨Zru h0,Classical.byContradiction fun hn=>?_⟩
  rw[ZtN hn] at h
  simp at h
 ·rw[beq_false_of_ne h0] at h
  exact absurd h h0
theorem ZdB (g:Zi) (h:Zgt g):Zbz g=some (ZL g):=by
 have hw:=Zd8 g.work (fun z0=>ZbA z0) Zeb (fun x _=>ZvD x) h.w
 unfold Zbz ZL
 rw[hw,Zsw g h]
 by_cases h0:Ze6 g=0
 ·have hG:=Zru h0
  rw[h0]
  unfold Ze6 at h0
  by_cases hg:ZjJ g
  ·obtain⟨l,e,_⟩:=ZpM hG hg
   rw[e,Zt3 hg]
   revert h0
   cases decide (64<(g.work.length:Int))<;>cases decide (256<(g.edges.length:Int))<;>cases g.work.any Zeb<;>cases ZjT (ZjM g) 0 g.edges<;>simp
  ·rw[Zx6 hG hg,ZtN hg]
   revert h0
   cases decide (64<(g.work.length:Int))<;>cases decide (256<(g.edges.length:Int))<;>cases g.work.any Zeb<;>cases ZjT (ZjM g) 0 g.edges<;>simp
 ·rw[beq_false_of_ne h0]
  unfold Ze6 at h0 ⊢
  revert h0
  cases decide (64<(g.work.length:Int))<;>cases decide (256<(g.edges.length:Int))<;>cases g.work.any Zeb<;>cases ZjT (ZjM g) 0 g.edges<;>simp
theorem Zd3 {g:Zi} (hG:Zdb g):Zds g.edges g.work.length:=fun e he=>⟨hG.src e he,hG.dst e he⟩
theorem Zvg {g:Zi} (hG:Zdb g) (hA:ZjJ g) {left:List Int} (hl:left.length=g.work.length) (hr:∀x∈left,0≤x) (h:∃n,isN left n∧0<lf left n):∃n,isN left n∧0<lf left n∧Zh2 g.edges left n:=by
 have pos:∀n,0≤lf left n:=fun n=>by
  unfold lf
  cases hx:left[n.toNat]? with
  | none=>simp
  | some x=>exact hr x (List.mem_of_getElem? hx)
 let S:List Int:=((List.range left.length).map fun i:Nat=>(i:Int)).filter fun n=>decide (0<lf left n)
 have mem:∀n,n∈S↔isN left n∧0<lf left n:=fun n=>by
  simp only[S,List.mem_filter,List.mem_map,List.mem_range,decide_eq_true_eq]
  constructor
  ·rintro ⟨⟨i,hi,rfl⟩,h2⟩
   exact⟨⟨by omega,by simpa using hi⟩,h2⟩
  ·rintro ⟨h1,h2⟩
   exact⟨⟨n.toNat,h1.2,Int.toNat_of_nonneg h1.1⟩,h2⟩
 obtain⟨n0,h0⟩:=h
 obtain⟨n,hn,hn2⟩:=ZrW hA S.length S (Nat.le_refl _) (fun he=>by
  have:=(mem n0).2 h0
  rw[he] at this
  cases this)
 obtain⟨h1,h2⟩:=(mem n).1 hn
 refine⟨n,h1,h2,fun e he hd=>?_⟩
 have hs:=hG.src e he
 have:=hn2 e he hd
 rw[mem] at this
 have h3:=pos e.src
 apply Classical.byContradiction
 intro hc
 exact this ⟨⟨hs.1,by rw[hl];exact hs.2⟩,by omega⟩
theorem Zn4 {row:List Int}{n:Int} (h:n∈row) (hn:n ≠ -1):0<busy row:=by
 unfold busy
 exact List.countP_pos_iff.2 ⟨n,h,by simpa using hn⟩
theorem ZjG {g:Zi} (hG:Zdb g) (hA:ZjJ g) {left on row:List Int} (hl:left.length=g.work.length) (h:∃n,isN left n∧0<lf left n) (c:Ze5 g.edges left on) (f:ZdX g.edges left on row) (hm:1≤on.length):0<busy row:=by
 obtain⟨n,h1,h2,h3⟩:=Zvg hG hA hl (fun x hx=>(c.rng x hx).1) h
 have n0:n ≠ -1:=by have:=h1.1;omega
 by_cases ho:n∈on
 ·obtain⟨i,hi⟩:=List.getElem?_of_mem ho
  exact Zn4 (List.mem_of_getElem? (f.keep i n hi n0)) n0
 ·by_cases hr:n∈row
  ·exact Zn4 hr n0
  ·by_cases hi : -1∈row
   ·exact absurd ⟨h1,h2,hr,h3⟩ (f.all hi n)
   ·have hlen:0<row.length:=by rw[f.len];omega
    refine Zn4 (List.getElem_mem hlen) fun he=>hi ?_
    rw[← he]
    exact List.getElem_mem hlen
theorem ZwH {g:Zi} (hG:Zdb g) (hA:ZjJ g) {need:List Int} (hn:need.length=g.work.length) (h:∀x∈need,1≤x∧x≤1000) {t:List (List Int)}{left on:List Int} (s:Sched g.edges need 1 t left on):Zdu t=t.length:=by
 have hE:Zds g.edges need.length:=by rw[hn];exact Zd3 hG
 induction s with
 | nil=>rfl
 | @snoc t left on row s hs f ih=>
  have c:=s.crew h hE
  have hl:=s.len
  have b:=ZjG hG hA (by rw[hl.1,hn]) hs c f (by rw[hl.2.1];exact Nat.le_refl _)
  have hr:row.length=1:=by rw[f.len,hl.2.1]
  have:busy row≤row.length:=List.countP_le_length
  have e:Zdu (t++[row])=Zdu t+busy row:=by
   unfold Zdu
   rw[List.map_append,List.sum_append]
   simp
  rw[e,ih,List.length_append,List.length_singleton]
  omega
theorem Sched.short {g:Zi} (hG:Zdb g) (hA:ZjJ g) {need:List Int} (hn:need.length=g.work.length) (h:∀x∈need,1≤x∧x≤1000) {m:Nat} (hm:1≤m) {t:List (List Int)}{left on:List Int} (s:Sched g.edges need m t left on):t.length≤Zdu t:=by
 have hE:Zds g.edges need.length:=by rw[hn];exact Zd3 hG
 induction s with
 | nil=>exact Nat.zero_le _
 | @snoc t left on row s hs f ih=>
  have c:=s.crew h hE
  have hl:=s.len
  have b:=ZjG hG hA (by rw[hl.1,hn]) hs c f (by rw[hl.2.1];exact hm)
  have e:Zdu (t++[row])=Zdu t+busy row:=by
   unfold Zdu
   rw[List.map_append,List.sum_append]
   simp
  rw[e,List.length_append,List.length_singleton]
  omega
theorem Zx3 {l:List Int} (h:∀x∈l,x=0):l.sum=0:=by
 induction l with
 | nil=>rfl
 | cons x l ih=>
  rw[List.sum_cons,h x (by simp),ih fun y hy=>h y (by simp[hy])]
  rfl
theorem ZrZ (l:List Zt) (f:Zt→Option Bool) (p:Zt→Bool) (hf:∀x∈l,f x=some (p x)) (hl:l.length<9223372036854775808):ZO l f=some (l.any p):=by
 unfold ZO Zai
 refine Zi6 l p _ (fun i x hi hx=>?_) ?_
 ·simp only[ZX,Zd1 hi,ZE hx,Option.bind_some,hf x (List.mem_of_getElem? hx),Z0 hi hl,cond_true]
  cases p x<;>rfl
 ·simp only[ZX,Zd7];rfl
theorem Znp (l:List Int) (n:Int):(l.any fun x=>n==x)=decide (n∈l):=by
 rw[Bool.eq_iff_iff,List.any_eq_true,decide_eq_true_eq]
 constructor
 ·rintro ⟨x,hx,h⟩
  have:n=x:=by simpa using h
  rw[this];exact hx
 ·intro h
  exact⟨n,h,by simp⟩
theorem ZsG {γ R:Type} (l:List γ) (step:Int→Option (Int⊕R)) (fin:R) (h1:∀i x,i<l.length→l[i]? = some x→step (i:Int)=some (.inl ((i+1:Nat):Int))) (h2:step (l.length:Int)=some (.inr fin)):lp step 0=some fin:=by
 rw[Zju l step (fun _ _=>false) (fun _ _=>fin) fin h1 h2,Zh7]
 cases ZjT (fun _ _=>false) 0 l<;>rfl
theorem ZqR {n:Nat} (step:Int×List Int→Option ((Int×List Int)⊕List Int)) (p:Nat→Bool)
  (h1:∀(i:Nat) (out:List Int),i<n→out.length≤i→step ((i:Int),out)=some (.inl (((i+1:Nat):Int),bif p i then out++[(i:Int)] else out)))
  (h2:∀out,step ((n:Int),out)=some (.inr out)):lp step (0,[])=some (((List.range n).filter p).map fun i:Nat=>(i:Int)):=by
 have key:∀(k i:Nat) (out:List Int),i+k=n→out.length≤i→lp step ((i:Int),out)=some (out++((List.range' i k).filter p).map fun i:Nat=>(i:Int)):=by
  intro k
  induction k with
  | zero=>
   intro i out hi _
   have:i=n:=by omega
   subst this
   rw[Za7,h2]
   simp
  | succ k ih=>
   intro i out hi ho
   rw[Za7,h1 i out (by omega) ho]
   dsimp only
   rw[List.range'_succ]
   cases hp:p i with
   | true=>
    rw[cond_true,ih (i+1) _ (by omega) (by rw[List.length_append];simp;exact ho),List.filter_cons_of_pos hp,List.map_cons,List.append_assoc]
    rfl
   | false=>
    rw[cond_false,ih (i+1) _ (by omega) (by omega),List.filter_cons_of_neg (by rw[hp];decide)]
 have:=key n 0 [] (by omega) (by simp)
 rw[List.range_eq_range']
 simpa using this
theorem Zgo {n:Nat}{p:Nat→Bool}{z:Int}:(z∈((List.range n).filter p).map fun i:Nat=>(i:Int))↔0≤z∧z.toNat<n∧p z.toNat=true:=by
 rw[List.mem_map]
 constructor
 ·rintro ⟨i,hi,rfl⟩
  obtain⟨h1,h2⟩:=List.mem_filter.1 hi
  rw[List.mem_range] at h1
  exact⟨by omega,by simpa using h1,by simpa using h2⟩
 ·rintro ⟨h0,h1,h2⟩
  exact⟨z.toNat,List.mem_filter.2 ⟨List.mem_range.2 h1,h2⟩,Int.toNat_of_nonneg h0⟩
theorem Zsj {left:List Int}{n:Int} (h:isN left n):ZK left n=some (lf left n):=Zrf h.1 (Zhb h.1 h.2)
theorem Zom {c:ZD}{n:Int} (h:isN c.left n):ZcU c n=some (lf c.left n==0):=by
 unfold ZcU
 rw[Zsj h,Option.bind_some]
 cases lf c.left n==0<;>rfl
def ZmK (E:List Zt) (left:List Int) (n:Int):Bool:=!(E.any fun e=>(e.dst==n) && !(lf left e.src==0))
theorem ZdQ {E:List Zt}{left:List Int}{n:Int}:ZmK E left n=true↔Zh2 E left n:=by
 unfold ZmK Zh2
 rw[Bool.not_eq_true',List.any_eq_false]
 constructor
 ·intro h e he hd
  have:=h e he
  rw[hd,beq_self_eq_true,Bool.true_and,Bool.not_eq_true',Bool.not_eq_false] at this
  simpa using this
 ·intro h e he hh
  simp only[Bool.and_eq_true,beq_iff_eq,Bool.not_eq_true',beq_eq_false_iff_ne] at hh
  exact hh.2 (h e he hh.1)
theorem Zs6 {g:Zi} (hG:Zdb g) {c:ZD} (hl:c.left.length=g.work.length) (n:Int):Zep g c n=some (ZmK g.edges c.left n):=by
 unfold Zep
 rw[ZrZ _ _ (fun e=>(e.dst==n) && !(lf c.left e.src==0)) (fun e he=>by
  have hs:=hG.src e he
  unfold Zdi
  rw[show(ZD.mk c.on c.left)=c from rfl,Zom (c:=c) (n:=e.src) ⟨hs.1,by rw[hl];exact hs.2⟩]
  cases e.dst==n<;>cases lf c.left e.src==0<;>rfl) hG.short.e]
 unfold ZmK
 cases (g.edges.any fun e=>(e.dst==n) && !(lf c.left e.src==0))<;>rfl
structure Zb2 (g:Zi) (left on:List Int):Prop where
 ll:left.length=g.work.length
 o1:1≤on.length
 o8:on.length≤8
 ok:Ze5 g.edges left on
theorem Zxf (x:Int):ZbF x=some (decide (x<0) || decide (1000<x)):=by
 unfold ZbF
 cases decide (x<0)<;>cases decide (1000<x)<;>rfl
theorem Zyx {g:Zi} (hG:Zdb g) {left on:List Int} (c:Zb2 g left on):ZfX g (ZD.mk on left)=some true:=by
 have o1:=c.o1
 have o8:=c.o8
 have hw:=hG.wl
 have ll:=c.ll
 unfold ZfX
 dsimp only
 rw[decide_eq_false (by omega),cond_false,decide_eq_false (by omega),cond_false,show((left.length:Int) != (g.work.length:Int))=false by rw[ll];simp,cond_false,
  Zd8 left _ (fun x=>decide (x<0) || decide (1000<x)) (fun x _=>Zxf x) (by omega),Option.bind_some]
 have h0:(left.any fun x=>decide (x<0) || decide (1000<x))=false:=List.any_eq_false.2 fun x hx=>by
  have:=c.ok.rng x hx
  rw[decide_eq_false (by omega),decide_eq_false (by omega)]
  decide
 rw[h0,cond_false,ZsG on (Zdc g (ZD.mk on left)) (.inr ()) (fun i n hi hn=>?_) (by simp only[Zdc,Zd7];rfl),Option.bind_some]
 ·dsimp only
  rw[ZsG left (Zdd g (ZD.mk on left)) (.inr ()) (fun i x hi hx=>?_) (by simp only[Zdd,Zd7];rfl)]
  ·rfl
  ·have hin:isN left (i:Int):=⟨by omega,by simpa using hi⟩
   simp only[Zdd,Zd1 hi,cond_true,Zom (c:=ZD.mk on left) hin,Option.bind_some,Zs6 hG (c:=ZD.mk on left) c.ll,Z0 hi (show left.length<9223372036854775808 by omega)]
   cases hz:lf left (i:Int)==0 with
   | false=>rfl
   | true=>
    have:=ZdQ.2 (c.ok.over _ hin (by simpa using hz))
    rw[this];rfl
 ·simp only[Zdc,Zd1 hi,cond_true,ZE hn,Option.bind_some,Z0 hi (show on.length<9223372036854775808 by omega)]
  cases hz:n == -1 with
  | true=>rfl
  | false=>
   have hne:n ≠ -1:=by simpa using hz
   rcases c.ok.run n (List.mem_of_getElem? hn) with h | ⟨h1,h2,h3⟩
   ·exact absurd h hne
   ·have:=h1.1
    have:=h1.2
    have hm:(List.take i on).any (fun x=>n==x)=false:=List.any_eq_false.2 fun x hx hq=>by
     have:n=x:=by simpa using hq
     subst this
     obtain⟨j,hj⟩:=List.getElem?_of_mem hx
     have hjl:=(List.getElem?_eq_some_iff.1 hj).1
     rw[List.length_take] at hjl
     rw[List.getElem?_take,if_pos (by omega)] at hj
     have:=c.ok.one j i n hj hn hne
     omega
    simp only[cond_false,decide_eq_false (show ¬n<0 by omega),decide_eq_false (show ¬(left.length:Int)≤n by omega),Zom (c:=ZD.mk on left) h1,Option.bind_some,show(lf left n==0)=false from beq_eq_false_iff_ne.2 (by omega),
     decide_eq_true (show(0:Int)≤(i:Int) by omega),Int.toNat_natCast,Nat.ble_eq_true_of_le (show i≤on.length by omega),cond_true,Zjn (List.take i on) n (by rw[List.length_take];omega),hm,Zs6 hG (c:=ZD.mk on left) c.ll,ZdQ.2 h3]
theorem Zfw {g:Zi} (h:ZL g=0) {left on:List Int} (c:Zb2 g left on):Zc6 g (ZD.mk on left)=some 0:=by
 obtain⟨hG,hA⟩:=ZQ h
 unfold Zc6
 rw[ZdB g hG.short,h,Option.bind_some]
 simp only[beq_self_eq_true,cond_true,Zyx hG c,Option.bind_some]
def Za8 (E:List Zt) (left on:List Int):List Int:=((List.range left.length).filter fun i:Nat=>!(lf left (i:Int)==0)&&(!(decide ((i:Int)∈on))&&ZmK E left (i:Int))).map fun i:Nat=>(i:Int)
theorem Znh {g:Zi} (h:ZL g=0) {left on:List Int} (c:Zb2 g left on):Zch g (ZD.mk on left)=some (Za8 g.edges left on):=by
 obtain⟨hG,hA⟩:=ZQ h
 have hw:=hG.wl
 have ll:=c.ll
 have o8:=c.o8
 unfold Zch
 rw[Zfw h c,Option.bind_some]
 unfold Zey
 rw[ZqR (n:=left.length) (Zc8 g (ZD.mk on left)) (fun i:Nat=>!(lf left (i:Int)==0)&&(!(decide ((i:Int)∈on))&&ZmK g.edges left (i:Int))) (fun i out hi ho=>?_) (fun out=>by simp only[Zc8,Zd7];rfl)]
 ·rfl
 ·have hin:isN left (i:Int):=⟨by omega,by simpa using hi⟩
  simp only[Zc8,Zd1 hi,cond_true,Zom (c:=ZD.mk on left) hin,Option.bind_some,Zjn on (i:Int) (by omega),Znp,Zs6 hG (c:=ZD.mk on left) c.ll,Z0 hi (show left.length<9223372036854775808 by omega),Zew (show out.length+1≤1073741824 by omega)]
  cases lf left (i:Int)==0<;>cases decide ((i:Int)∈on)<;>cases ZmK g.edges left (i:Int)<;>rfl
theorem Zkr {E:List Zt}{left on:List Int} (hr:∀x∈left,0≤x) {n:Int}:n∈Za8 E left on↔Rdy E left on n:=by
 unfold Za8 Rdy isN
 rw[Zgo]
 simp only[Bool.and_eq_true,Bool.not_eq_true',beq_eq_false_iff_ne,decide_eq_false_iff_not]
 constructor
 ·rintro ⟨h0,h1,h2,h3,h4⟩
  rw[Int.toNat_of_nonneg h0] at h2 h3 h4
  refine⟨⟨h0,h1⟩,?_,h3,ZdQ.1 h4⟩
  have:0≤lf left n:=by
   rw[show lf left n=lf left n from rfl]
   exact hr _ (List.mem_of_getElem? (Zhb h0 h1))
  omega
 ·rintro ⟨⟨h0,h1⟩,h2,h3,h4⟩
  refine⟨h0,h1,?_⟩
  rw[Int.toNat_of_nonneg h0]
  exact⟨by omega,h3,ZdQ.2 h4⟩
theorem Zlp (E:List Zt) (left on:List Int):(Za8 E left on).Nodup:=by
 unfold Za8
 exact List.Pairwise.map _ (fun a b (h:a≠b)=>by omega) (List.Pairwise.filter _ List.nodup_range)
end Go.Proofs.YtgcfmiajkbbmeaaGreat
