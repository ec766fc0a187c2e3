/- TeamStays: part 3 of 4 of the proof. -/
import Derived.Test.YtgcfmiajkbbmeaaGreatZTeamStaysb
import Derived.Test.YtgcfmiajkbbmeaaGreatProg
import Derived.WalkKit
import Derived.Shelf.Sort.Plain
import Derived.Shelf.Slices.In.SortNone
import Derived.KernelRfl
import Derived.ChangeArms
import Derived.Deep.Slices
import Derived.ChangeOld
import Derived.WideShapes
import Derived.FnData
import Derived.MakeChecks
import Derived.LaidMore
import Derived.OpenShut
set_option maxRecDepth 100000
set_option maxHeartbeats 40000000
set_option linter.unusedVariables false
set_option linter.unusedSimpArgs false
namespace Go.Proofs.YtgcfmiajkbbmeaaGreatE
open Go
open Go.IntKind (u64 i64 u32 i32 u8)
theorem ZoM:∀(n:Nat) (H:Zc) (b i:Nat) (blk:Blk),(ZuP H b n)[i]? = some blk->blk ≠ .dead->H[i]? = some blk/\¬(b<=i/\i<b+n)
  | 0,H,b,i,blk,h,_=>⟨h,by omega⟩
  | n+1,H,b,i,blk,h,hd=>by
    obtain⟨h1,h2⟩:=ZoM n _ _ i blk h hd
    rw[Z3,List.getElem?_set] at h1
    by_cases hbi:b=i
    · rw[if_pos hbi] at h1
      split at h1
      · cases h1;exact absurd rfl hd
      · cases h1
    · rw[if_neg hbi] at h1
      exact⟨h1,by omega⟩
theorem Zk0 (pos:List (Nat×Nat)):∀(mask:List Nat) (H:Zc) (i:Nat) (blk:Blk),(Zd4 H pos mask)[i]? = some blk->blk ≠ .dead->H[i]? = some blk/\∀m∈mask,∀b n,pos[m]? = some (b,n)->¬(b<=i/\i<b+n)
  | [],H,i,blk,h,_=>⟨h,by simp⟩
  | m :: mask,H,i,blk,h,hd=>by
    simp only[Zd4] at h
    rw[Zy] at h
    cases hp:pos[m]? with
    | none=>
      rw[hp] at h
      obtain⟨h1,h2⟩:=Zk0 pos mask H i blk h hd
      refine⟨h1,fun k hk b n hb=>?_⟩
      rcases List.mem_cons.1 hk with rfl | hk
      · rw[hp] at hb;cases hb
      · exact h2 k hk b n hb
    | some q=>
      obtain⟨b0,n0⟩:=q
      rw[hp] at h
      obtain⟨h1,h2⟩:=Zk0 pos mask _ i blk h hd
      obtain⟨h3,h4⟩:=ZoM n0 H b0 i blk h1 hd
      refine⟨h3,fun k hk b n hb=>?_⟩
      rcases List.mem_cons.1 hk with rfl | hk
      · rw[hp] at hb;cases hb;exact h4
      · exact h2 k hk b n hb
theorem Blk.like_symm {a b:Blk} (h:a.like b):b.like a:=by
  cases a<;>cases b<;>simp_all [Blk.like]
theorem ZpK {Γ:Ctx}{cf:ZX}{e:Env}{nid:Nat}{H:Zc}{op:O}{v:V}{up:List (Nat×Blk)}{nw:List Blk} (hc:ZtL op=true∨ZsW op=true) (h:opE Γ cf e nid H op=some (v,up,nw)):nw=[]:=by
  have key:∀(x:Option V),(match x with | some v=>ZaG v | none=>none)=some (v,up,nw)->nw=[]:=fun x h=>by
    cases x with
    | none=>cases h
    | some y=>exact(ZF h).2.2
  have keyD:∀(x:Option D),(match x with | some r=>ZaG (.d r) | none=>none)=some (v,up,nw)->nw=[]:=fun x h=>by
    cases x with
    | none=>cases h
    | some y=>exact(ZF h).2.2
  cases op<;>first | (rcases hc with hc | hc<;>cases hc;done) | skip
  case nilckm tab x=>
    simp only[opE] at h
    unfold ZlZ at h
    split at h
    · split at h
      · rename_i f _ _ _ _ _ _
        cases hb:Nat.beq f 2000000 with
        | true=>rw[hb] at h;exact(ZF h).2.2
        | false=>rw[hb] at h;cases h
      · cases h
    · cases h
  case mov x=>exact(ZF h).2.2
  case mkfn f caps=>exact(ZF h).2.2
  case bslice sz z len ps=>
    cases len with
    | zero=>simp only[opE] at h;split at h<;>first | exact(ZF h).2.2 | (cases h;done) | skip
    | succ n=>rcases hc with hc | hc<;>cases hc
  case build z ps=>simp only[opE] at h;split at h<;>first | exact(ZF h).2.2 | cases h
  case pick c a b=>simp only[opE] at h;split at h<;>first | exact(ZF h).2.2 | cases h
  case conv k x=>simp only[opE] at h;split at h<;>first | exact(ZF h).2.2 | cases h
  case eqv ks neg x y=>
    simp only[opE] at h
    split at h
    · split at h
      · split at h
        · exact(ZF h).2.2
        · cases h
      · cases h
    · cases h
  case field off n ag x=>
    simp only[opE] at h
    split at h
    · exact key _ h
    · exact key _ h
    · cases h
  case extract x i=>
    simp only[opE] at h
    split at h
    · exact key _ h
    · split at h<;>first | exact(ZF h).2.2 | cases h
    · cases h
  all_goals (simp only[opE] at h;first | exact key _ h | exact keyD _ h)
theorem ZtJ {Γ:Ctx}{cf:ZX}{e:Env}{nid:Nat}{H:Zc}{op:O}{v:V}{up:List (Nat×Blk)}{nw:List Blk} (hs:(∃n x y,op = .store n x y∨∃k,op = .storek n x y k)∨∃sz x y,op = .append sz x y) (h:opE Γ cf e nid H op=some (v,up,nw)) (hu:Zme 3 up nw=true) :
    nw=[]/\(up=[]∨∃b blk old,up=[(b,blk)]/\H[b]? = some old/\old.like blk):=by
  simp only[Zme,Bool.and_eq_true,List.isEmpty_iff] at hu
  obtain⟨hu,rfl⟩:=hu
  refine⟨rfl,?_⟩
  rcases hs with⟨n,x,y,hs⟩ | ⟨sz,x,y,rfl⟩
  · have h:Zht H n (x.val e) (y.val e)=some (v,up,[]):=by rcases hs with rfl | ⟨k,rfl⟩<;>exact h
    unfold Zht at h
    split at h
    · rename_i b o _
      split at h
      · rename_i cs hb
        cases hc:(Nat.beq (y.val e).cells.length n&&Nat.ble (o+n) cs.length&&(y.val e).okb&&ZoS (y.val e).cells) with
        | false=>rw[hc] at h;cases h
        | true=>
          rw[hc] at h
          simp only[cond_true,Option.some.injEq,Prod.mk.injEq] at h
          obtain⟨rfl,rfl,_⟩:=h
          exact .inr ⟨_,_,.cells cs,rfl,by rw[<- Zy];exact hb,trivial⟩
      · cases h
    · rename_i b sz i k _
      split at h
      · rename_i sz' xs hb
        cases hq:Nat.beq sz sz' with
        | false=>rw[hq] at h;cases h
        | true=>
          obtain rfl:=Nat.eq_of_beq_eq_true hq
          rw[hq] at h
          simp only[cond_true] at h
          split at h
          · rename_i x0 y0 ks h1 h2
            cases he:Ze3 ks b with
            | true=>rw[he] at h;cases h
            | false=>
              rw[he] at h
              simp only[cond_false] at h
              cases hc:(Nat.beq y0.cells.length n&&Nat.ble (k+n) x0.cells.length&&(V.d y0).okb&&(x0.isAgg || !y0.isAgg)) with
              | false=>rw[hc] at h;cases h
              | true=>
                rw[hc] at h
                simp only[cond_true,Option.some.injEq,Prod.mk.injEq] at h
                obtain⟨rfl,rfl,_⟩:=h
                cases ks with
                | nil=>exact .inr ⟨_,_,.arr sz xs,rfl,by rw[<- Zy];exact hb,rfl,by rw[Z3];simp⟩
                | cons a r=>simp[ZqW] at hu
          · cases h
      · cases h
    · cases h
  · simp only[opE] at h
    unfold Zer at h
    split at h
    · cases h
    · rename_i ys hy
      cases hz:Zgr sz ys 0 with
      | false=>rw[hz] at h;cases h
      | true=>
        rw[hz] at h
        simp only[cond_true] at h
        split at h
        · cases hl:Nat.ble ys.length lim with
          | false=>rw[hl] at h;cases h
          | true=>rw[hl] at h;cases h
        · rename_i b sz' _
          split at h
          · rename_i sz'' xs hb
            cases hc:(Nat.beq sz sz'&&Nat.beq sz sz'') with
            | false=>rw[hc] at h;cases h
            | true=>
              rw[hc] at h
              simp only[cond_true] at h
              cases hl:Nat.ble (xs.length+ys.length) lim with
              | false=>rw[hl] at h;cases h
              | true=>rw[hl] at h;cases h
          · cases h
        · rename_i b sz' o len _
          split at h
          · rename_i sz'' xs hb
            cases hc:(Nat.beq sz sz'&&Nat.beq sz sz''&&Nat.ble (o+len+ys.length) xs.length) with
            | false=>rw[hc] at h;cases h
            | true=>
              rw[hc] at h
              simp only[cond_true,Option.some.injEq,Prod.mk.injEq] at h
              obtain⟨rfl,rfl,_⟩:=h
              simp only[Bool.and_eq_true,Nat.ble_eq] at hc
              obtain⟨⟨c1,c2⟩,c3⟩:=hc
              refine .inr ⟨_,_,.arr sz'' xs,rfl,by rw[<- Zy];exact hb,(Nat.eq_of_beq_eq_true c2).symm,?_⟩
              simp only[List.length_append,List.length_take,List.length_drop]
              omega
          · cases h
        · cases h
theorem Zku {e:Env}{H:Zc}{o:Op1}{up:List (Nat×Blk)}{nw:List Blk} (h:Zl8 e H o up nw=true):Zme o.eff up nw=true/\ZzR e H up o.op=true:=by
  unfold Zl8 at h
  rwa [Bool.and_eq_true] at h
def ZaP.len (t:ZaP) (j:Nat):Nat:=(t.HH j).length
theorem ZkL {p:Op1}:(ZP p<=2↔(p.eff=0∨p.eff=1))/\(ZP p=3↔p.eff=3):=by
  unfold ZP
  split
  · rename_i h
    rw[h]
    cases ZtL p.op<;>cases ZsW p.op<;>simp
  · rename_i h;rw[h];simp
  · rename_i h;rw[h];simp
  · rename_i h0 h1 h3
    constructor
    · simp;exact⟨h0,h1⟩
    · simp;exact h3
theorem Zqc {p:Op1} (h:p.eff=1):ZP p=1:=by unfold ZP;simp only[h]
theorem Zor {p:Op1} (h:ZP p<=1):(ZP p=0/\ZtL p.op=true)∨(ZP p=1/\ZsW p.op=true/\p.eff≠1)∨(ZP p=1/\p.eff=1):=by
  rcases(ZkL (p:=p)).1.1 (by omega) with h0 | h0
  · unfold ZP at h ⊢
    rw[h0] at h ⊢
    cases h1:ZtL p.op<;>cases h2:ZsW p.op<;>simp_all
  · exact .inr (.inr ⟨Zqc h0,h0⟩)
def Zwc:V->Option Nat
  | .ptr b _=>some b
  | .eptr b _ _ _=>some b
  | _=>none
theorem ZiA {H H':Zc}{n:Nat}{ag:Bool}{x v:V} (h:Zbv H n ag x=some v) (hs:∀b,Zwc x=some b->∀blk,H[b]? = some blk->blk ≠ .dead->H'[b]? = some blk):Zbv H' n ag x=some v:=by
  cases x<;>try exact h
  · rename_i d
    cases d<;>exact h
  · rename_i b o
    unfold Zbv at h ⊢
    simp only[Zy] at h ⊢
    cases hb:H[b]? with
    | none=>rw[hb] at h;cases h
    | some blk=>
      rw[hb] at h
      cases blk<;>try (cases h;done)
      rw[hs b rfl _ hb (by simp)];exact h
  · rename_i b sz i k
    unfold Zbv at h ⊢
    simp only[Zy] at h ⊢
    cases hb:H[b]? with
    | none=>rw[hb] at h;cases h
    | some blk=>
      rw[hb] at h
      cases blk<;>try (cases h;done)
      rw[hs b rfl _ hb (by simp)];exact h
theorem Zs5 {H:Zc}{n:Nat}{ag:Bool}{x v:V}{b:Nat} (h:Zbv H n ag x=some v) (hx:Zwc x=some b):∃blk,H[b]? = some blk/\blk ≠ .dead:=by
  cases x<;>try (cases hx;done)
  · rename_i b' o
    cases hx
    unfold Zbv at h
    simp only[Zy] at h
    cases hb:H[b]? with
    | none=>rw[hb] at h;cases h
    | some blk=>
      rw[hb] at h
      cases blk<;>try (cases h;done)
      exact⟨_,rfl,by simp⟩
  · rename_i b' sz i k
    cases hx
    unfold Zbv at h
    simp only[Zy] at h
    cases hb:H[b]? with
    | none=>rw[hb] at h;cases h
    | some blk=>
      rw[hb] at h
      cases blk<;>try (cases h;done)
      exact⟨_,rfl,by simp⟩
theorem ZpS:∀{up:List (Nat×Blk)}{H:Zc}{b:Nat},Zli up b=false->(Za4 H up)[b]? = H[b]?
  | [],_,_,_=>rfl
  | (a,blk) :: r,H,b,h=>by
    simp only[Zli] at h
    cases hb:Nat.beq a b with
    | true=>rw[hb] at h;cases h
    | false=>
      rw[hb] at h
      show(Za4 (ZbZ H a blk) r)[b]? = _
      rw[ZpS (up:=r) h,Z3,List.getElem?_set_ne (fun e=>by subst e;rw[Nat.beq_refl] at hb;cases hb)]
theorem Zmn {e:Env}{up:List (Nat×Blk)}{s:Nat}:∀{l:List Opd},ZkS e up l=true->ZqI l s=true->∀b,Zwc (e s)=some b->Zli up b=false
  | [],_,hs=>by cases hs
  | .c v :: l,h,hs=>by
    simp only[ZkS,Bool.and_eq_true] at h
    exact Zmn (l:=l) h.2 hs
  | .t i :: l,h,hs=>by
    simp only[ZkS,Bool.and_eq_true] at h
    simp only[ZqI,Bool.or_eq_true] at hs
    rcases hs with hs | hs
    · obtain rfl:=Nat.eq_of_beq_eq_true hs
      have h1:=h.1
      intro b hb
      change (match e i with
        | .ptr b _=>!(Zli up b)
        | .eptr b _ _ _=>!(Zli up b)
        | .d _=>true
        | _=>false)=true at h1
      cases hx:e i<;>rw[hx] at h1 hb<;>simp only[Zwc,Option.some.injEq] at hb<;>first | (subst hb;simpa using h1) | cases hb
    · exact Zmn (l:=l) h.2 hs
theorem ZqZ {e:Env}{H H':Zc}{s:Nat}:∀{l:List Opd},Zth e H H' l=true->ZqI l s=true->∃i,Zbv H 1 false (e s)=some (.mp i)/\Zbv H' 1 false (e s)=some (.mp i)
  | [],_,hs=>by cases hs
  | .c v :: l,h,hs=>by
    simp only[Zth,Bool.and_eq_true] at h
    exact ZqZ (l:=l) h.2 hs
  | .t i :: l,h,hs=>by
    simp only[Zth,Bool.and_eq_true] at h
    simp only[ZqI,Bool.or_eq_true] at hs
    rcases hs with hs | hs
    · obtain rfl:=Nat.eq_of_beq_eq_true hs
      have h1:=h.1
      change (match e i with
        | .ptr b o=>(match Zbv H 1 false (.ptr b o),Zbv H' 1 false (.ptr b o) with | some (.mp i),some (.mp j)=>Nat.beq i j | _,_=>false)
        | _=>false)=true at h1
      split at h1
      · rename_i b o hx
        rw[hx]
        split at h1
        · rename_i i1 j1 e1 e2
          rw[e1,e2,Nat.eq_of_beq_eq_true h1]
          exact⟨_,rfl,rfl⟩
        · cases h1
      · cases h1
    · exact ZqZ (l:=l) h.2 hs
section
variable {P:Program} {G:ZQ} {N:Nat} {Γ:Ctx} {cf:ZX} {t:ZaP} {l:List Op1} {e:Env} {H:Zc} {e':Env} {H':Zc} {os:Array Oper} {B:Nat->Nat->Prop} {D:Nat->Bool}
theorem ZaP.OK.len_succ (ht:t.OK Γ cf [] l e H e' H') {j:Nat} (hj:j<l.length):t.len (j+1)=t.len j+(t.NW j).length:=by
  unfold ZaP.len
  rw[ht.h j _ (List.getElem?_eq_getElem hj),List.length_append,Zh8]
theorem ZaP.OK.len_mono (ht:t.OK Γ cf [] l e H e' H') {a:Nat}:∀(b:Nat),a<=b->b<=l.length->t.len a<=t.len b:=by
  intro b
  induction b with
  | zero => intro h _; have : a = 0 := by omega
            subst this;exact Nat.le_refl _
  | succ b ih=>
    intro h hb
    by_cases hab:a=b+1
    · subst hab;exact Nat.le_refl _
    · have h1:=ih (by omega) (by omega)
      have h2:=ht.len_succ (j:=b) (by omega)
      omega
theorem ZaP.OK.whose (ht:t.OK Γ cf [] l e H e' H') {a i:Nat}:∀(b:Nat),a<=b->b<=l.length->t.len a<=i->i<t.len b->∃j,a<=j/\j<b/\t.len j<=i/\i<t.len (j+1):=by
  intro b
  induction b with
  | zero => intro h _ h1 h2; have : a = 0 := by omega
            subst this;omega
  | succ b ih=>
    intro h hb h1 h2
    by_cases hab:a=b+1
    · subst hab;omega
    · by_cases hi:i<t.len b
      · obtain⟨j,g1,g2,g3⟩:=ih (by omega) (by omega) h1 hi
        exact⟨j,g1,by omega,g3⟩
      · exact⟨b,by omega,by omega,by omega,h2⟩
theorem ZaP.OK.one (ht:t.OK Γ cf [] l e H e' H') {i j k:Nat} (hj:j<l.length) (hk:k<l.length) (h1:t.len j<=i/\i<t.len (j+1)) (h2:t.len k<=i/\i<t.len (k+1)):j=k:=by
  rcases Nat.lt_trichotomy j k with h | h | h
  · have:=ht.len_mono (a:=j+1) k (by omega) (by omega);omega
  · exact h
  · have:=ht.len_mono (a:=k+1) j (by omega) (by omega);omega
theorem ZaP.OK.noUp (ht:t.OK Γ cf [] l e H e' H') {j:Nat}{p:Op1} (hp:l[j]? = some p) (hc:ZP p<=2):t.UP j=[]:=by
  cases hw:t.W j with
  | false=>exact(ht.n j p hp hw).2.1
  | true=>
    have:=(Zku (ht.y j p hp hw).2).1
    rcases(ZkL (p:=p)).1.1 hc with h | h
    · rw[h] at this;simpa [Zme] using this
    · rw[h] at this
      simp only[Zme,Bool.and_eq_true,List.isEmpty_iff] at this
      exact this.1
theorem ZaP.OK.noNew (ht:t.OK Γ cf [] l e H e' H') {j:Nat}{p:Op1} (hp:l[j]? = some p) (hc:ZP p<=1):t.NW j=[]:=by
  cases hw:t.W j with
  | false=>exact(ht.n j p hp hw).2.2
  | true=>
    rcases Zor hc with h | h | h
    · exact ZpK (.inl h.2) (ht.y j p hp hw).1
    · exact ZpK (.inr h.2.1) (ht.y j p hp hw).1
    · have:=(Zku (ht.y j p hp hw).2).1
      rw[h.2] at this
      simp only[Zme,Bool.and_eq_true,List.isEmpty_iff] at this
      exact this.2
theorem ZaP.OK.new2 (ht:t.OK Γ cf [] l e H e' H') {i j:Nat}{p:Op1} (hp:l[j]? = some p) (h:t.len j<=i/\i<t.len (j+1)):2<=ZP p:=by
  have hj:=(List.getElem?_eq_some_iff.1 hp).1
  rcases Nat.lt_or_ge (ZP p) 2 with h' | h'
  · have:=ht.len_succ hj
    rw[ht.noNew hp (by omega)] at this
    simp at this
    omega
  · exact h'
theorem ZaP.OK.stay1 (ht:t.OK Γ cf [] l e H e' H') {j:Nat}{p:Op1} (hp:l[j]? = some p) (hc:ZP p<=2):t.HH (j+1)=t.HH j++t.NW j:=by
  rw[ht.h j p hp,ht.noUp hp hc];rfl
theorem ZaP.OK.stay (ht:t.OK Γ cf [] l e H e' H') {a:Nat}:∀(b:Nat),a<=b->b<=l.length->(∀m p,a<=m->m<b->l[m]? = some p->ZP p<=2)->∀i,i<t.len a->(t.HH b)[i]? = (t.HH a)[i]?:=by
  intro b
  induction b with
  | zero => intro h _ _ i _; have : a = 0 := by omega
            subst this;rfl
  | succ b ih=>
    intro h hb hc i hi
    by_cases hab:a=b+1
    · subst hab;rfl
    · have hp:l[b]? = some (l[b]'(by omega)):=List.getElem?_eq_getElem (by omega)
      have hm:=ht.len_mono (a:=a) b (by omega) (by omega)
      rw[ht.stay1 hp (hc b _ (by omega) (by omega) hp),List.getElem?_append_left (by unfold ZaP.len at *;omega)]
      exact ih (by omega) (by omega) (fun m p h1 h2=>hc m p h1 (by omega)) i hi
theorem ZaP.OK.like1 (ht:t.OK Γ cf [] l e H e' H') (hk:Chk P G N os l B) {j:Nat}{p:Op1} (hp:l[j]? = some p) (hc:ZP p<=3) {i:Nat} (hi:i<t.len j):∃x y,(t.HH j)[i]? = some x/\(t.HH (j+1))[i]? = some y/\(x=y∨x.like y):=by
  have same:t.UP j=[]->∃x y,(t.HH j)[i]? = some x/\(t.HH (j+1))[i]? = some y/\(x=y∨x.like y):=fun hu=>by
    refine⟨_,_,List.getElem?_eq_getElem hi,?_,.inl rfl⟩
    rw[ht.h j p hp,hu]
    show(t.HH j++t.NW j)[i]? = _
    rw[List.getElem?_append_left hi]
    exact List.getElem?_eq_getElem hi
  rcases Nat.lt_or_ge (ZP p) 3 with h | h
  · exact same (ht.noUp hp (by omega))
  · have he:=(ZkL (p:=p)).2.1 (by omega)
    cases hw:t.W j with
    | false=>exact same (ht.n j p hp hw).2.1
    | true=>
      obtain⟨y1,y2⟩:=ht.y j p hp hw
      rw[hk.mask j p hp h] at y1
      have y2:=(Zku y2).1
      rw[he] at y2
      have hs:(∃n x y,p.op = .store n x y∨∃k,p.op = .storek n x y k)∨∃sz x y,p.op = .append sz x y:=by
        have:=hk.eff3 j p hp
        unfold Zri at this
        rw[he] at this
        cases hop:p.op<;>rw[hop] at this<;>first | (cases this;done) | exact .inl ⟨_,_,_,.inl rfl⟩ | exact .inl ⟨_,_,_,.inr ⟨_,rfl⟩⟩ | exact .inr ⟨_,_,_,rfl⟩
      obtain⟨f1,f2⟩:=ZtJ hs y1 y2
      rcases f2 with f2 | ⟨b,blk,old,f2,f3,f4⟩
      · exact same f2
      · by_cases hbi:b=i
        · subst hbi
          refine⟨old,blk,f3,?_,.inr f4⟩
          rw[ht.h j p hp,f1,f2]
          simp only[Za4,List.append_nil,Z3]
          rw[List.getElem?_set,if_pos rfl,if_pos (show b<(t.HH j).length from hi)]
        · refine⟨_,_,List.getElem?_eq_getElem hi,?_,.inl rfl⟩
          rw[ht.h j p hp,f1,f2]
          simp only[Za4,List.append_nil,Z3]
          rw[List.getElem?_set,if_neg hbi]
          exact List.getElem?_eq_getElem hi
theorem ZaP.OK.like (ht:t.OK Γ cf [] l e H e' H') (hk:Chk P G N os l B) {a:Nat}:∀(b:Nat),a<=b->b<=l.length->(∀m p,a<=m->m<b->l[m]? = some p->ZP p<=3)->∀i,i<t.len a->∃x y,(t.HH a)[i]? = some x/\(t.HH b)[i]? = some y/\(x=y∨x.like y):=by
  intro b
  induction b with
  | zero => intro h _ _ i hi; have : a = 0 := by omega
            subst this;exact⟨_,_,List.getElem?_eq_getElem hi,List.getElem?_eq_getElem hi,.inl rfl⟩
  | succ b ih=>
    intro h hb hc i hi
    by_cases hab:a=b+1
    · subst hab;exact⟨_,_,List.getElem?_eq_getElem hi,List.getElem?_eq_getElem hi,.inl rfl⟩
    · have hp:l[b]? = some (l[b]'(by omega)):=List.getElem?_eq_getElem (by omega)
      have hm:=ht.len_mono (a:=a) b (by omega) (by omega)
      obtain⟨x,y,h1,h2,h3⟩:=ih (by omega) (by omega) (fun m p h1 h2=>hc m p h1 (by omega)) i hi
      obtain⟨y',z,g1,g2,g3⟩:=ht.like1 hk hp (hc b _ (by omega) (by omega) hp) (i:=i) (by omega)
      rw[h2] at g1
      cases g1
      refine⟨x,z,h1,g2,?_⟩
      rcases h3 with rfl | h3
      · exact g3
      · rcases g3 with rfl | g3
        · exact .inr h3
        · exact .inr (Blk.like_trans h3 g3)
theorem ZaP.OK.env0 (ht:t.OK Γ cf [] l e H e' H') {x:Nat}:∀(j:Nat),j<=l.length->(∀i p,i<j->l[i]? = some p->p.dst≠some x)->t.E j x=e x:=by
  intro j
  induction j with
  | zero=>intro _ _;rw[ht.e0]
  | succ j ih=>
    intro hj hn
    have hp:l[j]? = some (l[j]'(by omega)):=List.getElem?_eq_getElem (by omega)
    rw[ht.e j _ hp]
    have h1:=hn j _ (by omega) hp
    have h2:=ih (by omega) (fun i p hi=>hn i p (by omega))
    cases hd:(l[j]'(by omega)).dst with
    | none=>exact h2
    | some d=>
      rw[hd] at h1
      show(bif Nat.beq d x then t.VV j else t.E j x)=e x
      have:Nat.beq d x=false:=by
        cases hb:Nat.beq d x with
        | false=>rfl
        | true=>exact absurd (congrArg some (Nat.eq_of_beq_eq_true hb)) h1
      rw[this];exact h2
theorem ZaP.OK.envd (ht:t.OK Γ cf [] l e H e' H') (hk:Chk P G N os l B) {i x:Nat}{p:Op1} (hp:l[i]? = some p) (hd:p.dst=some x):∀(j:Nat),i<j->j<=l.length->t.E j x=t.VV i:=by
  intro j
  induction j with
  | zero=>intro h;omega
  | succ j ih=>
    intro hij hj
    have hq:l[j]? = some (l[j]'(by omega)):=List.getElem?_eq_getElem (by omega)
    rw[ht.e j _ hq]
    by_cases h:i=j
    · subst h
      rw[hp] at hq
      cases hq
      rw[hd]
      show(bif Nat.beq x x then t.VV i else _)=_
      rw[Nat.beq_refl];rfl
    · have h2:=ih (by omega) (by omega)
      cases hd':(l[j]'(by omega)).dst with
      | none=>exact h2
      | some d=>
        show(bif Nat.beq d x then t.VV j else t.E j x)=_
        have:Nat.beq d x=false:=by
          cases hb:Nat.beq d x with
          | false=>rfl
          | true=>
            obtain rfl:=Nat.eq_of_beq_eq_true hb
            exact absurd (hk.dst i j p _ d hp hq hd hd') h
        rw[this];exact h2
theorem ZaP.OK.envs (ht:t.OK Γ cf [] l e H e' H') (hk:Chk P G N os l B) {j x:Nat}{q:Op1} (hq:l[j]? = some q) (he:q.eff=1) (hx:x∈Zbg q):∀(k:Nat),j<=k->k<=l.length->t.E k x=t.E j x:=by
  intro k
  induction k with
  | zero => intro h _; have : j = 0 := by omega
            subst this;rfl
  | succ k ih=>
    intro hjk hk'
    by_cases h:j=k+1
    · subst h;rfl
    · have hp:l[k]? = some (l[k]'(by omega)):=List.getElem?_eq_getElem (by omega)
      have h2:=ih (by omega) (by omega)
      rw[ht.e k _ hp]
      cases hd:(l[k]'(by omega)).dst with
      | none=>exact h2
      | some d=>
        show(bif Nat.beq d x then t.VV k else t.E k x)=_
        have:Nat.beq d x=false:=by
          cases hb:Nat.beq d x with
          | false=>rfl
          | true=>
            obtain rfl:=Nat.eq_of_beq_eq_true hb
            exact absurd hx (hk.stay k j _ q d hp hq he (by omega) hd)
        rw[this];exact h2
theorem Chk.lt (hk:Chk P G N os l B):∀(j i:Nat),j<l.length->B i j->i<j:=by
  intro j
  induction j using Nat.strongRecOn with
  | ind j ih=>
    intro i hj hb
    obtain⟨k,h1,h2⟩:=hk.bef j _ i (Array.getElem?_eq_getElem (by rw[hk.len];exact hj)) hb
    have h3:=hk.pre j _ (Array.getElem?_eq_getElem (by rw[hk.len];exact hj)) k h1
    rcases h2 with rfl | ⟨h4,h5⟩
    · exact h3
    · have:=ih k h4 i (by omega) h5;omega
def ZlP (os:Array Oper) (D:Nat->Bool):Prop:=∀(j:Nat) o,os[j]? = some o->D j=true->∀i∈ZkH o,D i=true
theorem Chk.down (hk:Chk P G N os l B) (hD:ZlP os D):∀(j i:Nat) o,os[j]? = some o->(∀k∈ZkH o,D k=true)->B i j->D i=true:=by
  intro j
  induction j using Nat.strongRecOn with
  | ind j ih=>
    intro i o ho hp hb
    obtain⟨k,h1,h2⟩:=hk.bef j o i ho hb
    rcases h2 with rfl | ⟨h4,h5⟩
    · exact hp _ h1
    · have hk':k<os.size:=by
        have:=(Array.getElem?_eq_some_iff.1 ho).1;omega
      exact ih k h4 i _ (Array.getElem?_eq_getElem hk') (fun m hm=>hD k _ (Array.getElem?_eq_getElem hk') (hp k h1) m hm) h5
theorem Chk.downD (hk:Chk P G N os l B) (hD:ZlP os D) {i j:Nat} (hj:j<l.length) (h:D j=true) (hb:B i j):D i=true:=
  hk.down hD j i _ (Array.getElem?_eq_getElem (by rw[hk.len];exact hj)) (hD j _ (Array.getElem?_eq_getElem (by rw[hk.len];exact hj)) h) hb
theorem Chk.order (hk:Chk P G N os l B) {i j:Nat}{p q:Op1} (hp:l[i]? = some p) (hq:l[j]? = some q) (hc:3<=ZP p) (hc2:2<=ZP q):i=j∨(i<j/\B i j)∨(j<i/\B j i):=by
  have hi:=(List.getElem?_eq_some_iff.1 hp).1
  have hj:=(List.getElem?_eq_some_iff.1 hq).1
  rcases hk.pair i j p q hp hq hc with h | h | h | h | h | h
  · exact .inl h
  · exact .inr (.inl ⟨hk.lt j i hj h,h⟩)
  · exact .inr (.inr ⟨hk.lt i j hi h,h⟩)
  · omega
  · omega
  · have:=Zqc h.1;omega
def hid (t:ZaP) (D:Nat->Bool) (K i:Nat):Bool:=(List.range K).any fun j=>!(D j)&&(decide (t.len j<=i)&&decide (i<t.len (j+1)))
def Zf5 (t:ZaP) (D:Nat->Bool) (K:Nat):Zc:=(t.HH K).mapIdx fun i b=>bif hid t D K i then .dead else b
theorem Zo3 {K i:Nat}:hid t D K i=true↔∃j,j<K/\D j=false/\t.len j<=i/\i<t.len (j+1):=by
  unfold hid
  simp[List.any_eq_true]
theorem Zhj {K i:Nat}:hid t D K i=false↔∀j,j<K->t.len j<=i->i<t.len (j+1)->D j=true:=by
  rw[<- Bool.not_eq_true,Zo3]
  constructor
  · intro h j h1 h2 h3
    cases hd:D j with
    | true=>rfl
    | false=>exact absurd ⟨j,h1,hd,h2,h3⟩ h
  · rintro h ⟨j,h1,h2,h3,h4⟩
    rw[h j h1 h3 h4] at h2;cases h2
theorem ZiK {K i:Nat}:(Zf5 t D K)[i]? = ((t.HH K)[i]?).map fun b=>bif hid t D K i then .dead else b:=by
  unfold Zf5
  rw[List.getElem?_mapIdx]
theorem Zrl {K i:Nat}{blk:Blk} (h:(Zf5 t D K)[i]? = some blk) (hd:blk ≠ .dead):(t.HH K)[i]? = some blk/\hid t D K i=false:=by
  rw[ZiK] at h
  cases hb:(t.HH K)[i]? with
  | none=>rw[hb] at h;cases h
  | some b=>
    rw[hb] at h
    simp only[Option.map_some,Option.some.injEq] at h
    cases hh:hid t D K i with
    | true=>rw[hh] at h;exact absurd h.symm hd
    | false=>rw[hh] at h;exact⟨by rw[<- h];rfl,rfl⟩
theorem Zef {K i:Nat} (h:hid t D K i=false):(Zf5 t D K)[i]? = (t.HH K)[i]?:=by
  rw[ZiK,h]
  cases (t.HH K)[i]?<;>rfl
theorem Zvz (l:List Op1) (a:Nat) (ha:a<=l.length):∃K,a<=K/\K<=l.length/\(∀m p,a<=m->m<K->l[m]? = some p->ZP p<=2)/\(K<l.length->∃p,l[K]? = some p/\3<=ZP p):=by
  have key:∀n a,l.length-a=n->a<=l.length->∃K,a<=K/\K<=l.length/\(∀m p,a<=m->m<K->l[m]? = some p->ZP p<=2)/\(K<l.length->∃p,l[K]? = some p/\3<=ZP p):=by
    intro n
    induction n with
    | zero=>intro a h1 h2;exact⟨a,Nat.le_refl _,h2,fun m p h3 h4=>by omega,fun h=>by omega⟩
    | succ n ih=>
      intro a h1 h2
      have hp:l[a]? = some (l[a]'(by omega)):=List.getElem?_eq_getElem (by omega)
      rcases Nat.lt_or_ge (ZP (l[a]'(by omega))) 3 with h | h
      · obtain⟨K,g1,g2,g3,g4⟩:=ih (a+1) (by omega) (by omega)
        refine⟨K,by omega,g2,fun m p h3 h4 h5=>?_,g4⟩
        by_cases hm:m=a
        · subst hm;rw[hp] at h5;cases h5;omega
        · exact g3 m p (by omega) h4 h5
      · exact⟨a,Nat.le_refl _,h2,fun m p h3 h4=>by omega,fun _=>⟨_,hp,h⟩⟩
  exact key _ a rfl ha
end
end Go.Proofs.YtgcfmiajkbbmeaaGreatE
namespace Go.Proofs.YtgcfmiajkbbmeaaGreatE
open Go
open Go.IntKind (u64 i64 u32 i32 u8)
theorem Zqp {e e':Env}:∀(g:Option (Nat×Bool)),(∀s b,g=some (s,b)->e s=e' s)->ZbO e g=ZbO e' g
 | none,_=>rfl
 | some (s,b),h=>by simp only[ZbO,h s b rfl]
section
variable {P:Program} {G:ZQ} {N:Nat} {Γ:Ctx} {cf:ZX} {t:ZaP} {l:List Op1} {e:Env} {H:Zc} {e':Env} {H':Zc} {os:Array Oper} {B:Nat->Nat->Prop} {Rf:RP} {wf:World}
structure Zs8 (P:Program) (N:Nat) (t:ZaP) (l:List Op1) (os:Array Oper) (e:Env) (H:Zc) (Rf:RP) (wf:World) (D:Nat->Bool) (a:Act) (w:World):Prop where
 closed:ZlP os D
 ex:∃K R env,K<=l.length/\(∀m p,l[m]? = some p->m<K->3<=ZP p->D m=true)/\(K<l.length->∃p,l[K]? = some p/\3<=ZP p/\D K=false) /\
  Ext Rf wf R w/\R.OK w/\R.H=Zf5 t D K/\(∀i,H.length<=i->(∀j,j<l.length->D j=true->¬(t.len j<=i/\i<t.len (j+1)))->R.M i=none)/\Zed R w env a /\
  (∀j p d,l[j]? = some p->p.dst=some d->D j=true->env d=t.VV j)/\(∀d,(∀j p,l[j]? = some p->p.dst=some d->D j=false)->env d=e d)
 tm:N<=a.tmps.size
 df:a.defers=[]
theorem Zt4 (ht:t.OK Γ cf [] l e H e' H') {D:Nat->Bool}{s:Nat}{R:RP}{w:World} (hs:s<=l.length) (ok:R.OK w) (hH:R.H=t.HH s) (hb:∀m p,l[m]? = some p->m<s->2<=ZP p->D m=true) (ha:∀m p,l[m]? = some p->s<=m->2<=ZP p->D m=false) :
  ∃K,K<=l.length/\(∀m p,l[m]? = some p->m<K->3<=ZP p->D m=true)/\(K<l.length->∃p,l[K]? = some p/\3<=ZP p/\D K=false)/\Ext R w { R with H:=Zf5 t D K } w/\RP.OK { R with H:=Zf5 t D K } w:=by
 obtain⟨K,h1,h2,h3,h4⟩:=Zvz l s hs
 have live:∀(i:Nat) blk,(Zf5 t D K)[i]? = some blk->blk ≠ .dead->R.H[i]? = some blk:=fun i blk h hd=>by
  obtain⟨g1,g2⟩:=Zrl h hd
  rw[Zhj] at g2
  have hiK:i<t.len K:=(List.getElem?_eq_some_iff.1 g1).1
  by_cases hi:i<t.len s
  ·rw[hH,<- ht.stay K h1 h2 h3 i hi];exact g1
  ·obtain⟨j,f1,f2,f3,f4⟩:=ht.whose K h1 h2 (by omega) hiK
   have hp:l[j]? = some (l[j]'(by omega)):=List.getElem?_eq_getElem (by omega)
   have d1:=ha j _ hp f1 (ht.new2 hp ⟨f3,f4⟩)
   rw[g2 j f2 f3 f4] at d1;cases d1
 refine⟨K,h2,fun m p hp hm hc=>?_,fun hK=>?_,Ext.kill live,ok.kill live⟩
 ·rcases Nat.lt_or_ge m s with h | h
  ·exact hb m p hp h (by omega)
  ·have:=h3 m p h hm hp;omega
 ·obtain⟨p,f1,f2⟩:=h4 hK
  exact⟨p,f1,f2,ha K p f1 h1 (by omega)⟩
def upd (D:Nat->Bool) (j:Nat):Nat->Bool:=fun i=>if i=j then true else D i
theorem step (c:Zf7 P G cf Rf wf) (hlo:Rf.H.length<=H.length) (ht:t.OK Γ cf [] l e H e' H') (hk:Chk P G N os l B) {Q:Exit->Act->World->Prop}{D:Nat->Bool}{a:Act}{w:World} (s:Zs8 P N t l os e H Rf wf D a w) {j:Nat}{o:Oper} (ho:os[j]? = some o) (hDj:D j=false) (hpre:∀i∈ZkH o,D i=true) :
  wpOp P os Q j (fun a' w'=>Zs8 P N t l os e H Rf wf (upd D j) a' w') a w:=by
 obtain⟨K,R,env,hK,hKd,hKn,x,ok,hH,hM,hE,hV,hO⟩:=s.ex
 have hjl:j<l.length:=by rw[<- hk.len];exact(Array.getElem?_eq_some_iff.1 ho).1
 obtain⟨p,hp⟩:∃p,l[j]? = some p:=⟨_,List.getElem?_eq_getElem hjl⟩
 have hoper:=hk.oper j o p ho hp
 simp only[ZjA,Bool.and_eq_true] at hoper
 obtain⟨k1,k2,k3⟩:=hoper
 have down:∀i,B i j->D i=true:=fun i hb=>hk.down s.closed j i o ho hpre hb
 have downD:∀i k,k<l.length->D k=true->B i k->D i=true:=fun i k h1 h2 h3=>hk.downD s.closed h1 h2 h3
 have slot:∀d,d∈Zbg p->env d=t.E j d:=fun d hd=>by
  by_cases hx:∃(i:Nat) (q:Op1),l[i]? = some q/\q.dst=some d
  ·obtain⟨i,q,hq,hqd⟩:=hx
   have old:j<=i->D i=false->env d=t.E j d:=fun hji hDi=>by
    rw[hO d fun i' q' hq' hqd'=>by rw[hk.dst i' i q' q d hq' hq hqd' hqd];exact hDi,ht.env0 j (by omega) fun i' q' hi' hq' hqd'=>by
     have:=hk.dst i' i q' q d hq' hq hqd' hqd;omega]
   rcases hk.reads i j q p d hq hp hqd hd with hb | hb | hb
   ·rw[hV i q d hq hqd (down i hb),ht.envd hk hq hqd j (hk.lt j i hjl hb) (by omega)]
   ·have hi:=(List.getElem?_eq_some_iff.1 hq).1
    refine old (Nat.le_of_lt (hk.lt i j hi hb)) ?_
    cases hDi:D i with
    | false=>rfl
    | true=>have:=downD j i hi hDi hb;rw[hDj] at this;cases this
   ·subst hb;exact old (Nat.le_refl _) hDj
  ·have hn:∀(i:Nat) (q:Op1),l[i]? = some q->q.dst≠some d:=fun i q hq hqd=>hx ⟨i,q,hq,hqd⟩
   rw[hO d fun i q hq hqd=>absurd hqd (hn i q hq),ht.env0 j (by omega) fun i q _ hq=>hn i q hq]
 have hg:ZbO env p.guard=some (t.W j):=by
  rw[<- ht.w j p hp]
  refine Zqp _ fun s' b hs=>slot s' ?_
  unfold Zbg
  rw[hs];simp
 have hwant:=Zkh (a:=a) hE k2 hg
 have hop:∀nid Hm,opE Γ cf env nid Hm p.op=opE Γ cf (t.E j) nid Hm p.op:=fun nid Hm=>by
  refine Ztl _ fun y hy=>?_
  cases y with
  | c v=>rfl
  | t i=>
   refine slot i ?_
   unfold Zbg
   exact List.mem_append_left _ (List.mem_filterMap.2 ⟨.t i,hy,rfl⟩)
 have closed':ZlP os (upd D j):=fun k o' hk' hd i hi=>by
  unfold upd at hd ⊢
  by_cases hik:i=j
  ·rw[if_pos hik]
  ·rw[if_neg hik]
   by_cases hkj:k=j
   ·subst hkj;rw[ho] at hk';cases hk';exact hpre i hi
   ·rw[if_neg hkj] at hd;exact s.closed k o' hk' hd i hi
 have fin:∀(K':Nat) (R':RP) (u:Value) (w':World),K'<=l.length->(∀m p,l[m]? = some p->m<K'->3<=ZP p->upd D j m=true)->(K'<l.length->∃p,l[K']? = some p/\3<=ZP p/\upd D j K'=false) ->
   Ext R w R' w'->R'.OK w'->R'.H=Zf5 t (upd D j) K'->(∀i,R.M i=none->¬(t.len j<=i/\i<t.len (j+1))->R'.M i=none)->ZS R' w' (t.VV j) u->Zs8 P N t l os e H Rf wf (upd D j) (a.put o.dst u) w':=by
  intro K' R' u w' hK' hKd' hKn' x' ok' hH' hM' hv
  refine⟨closed',⟨K',R',Zjo env p.dst (t.VV j),hK',hKd',hKn',x.trans x',ok',hH',fun i hi hni=>?_,ZjG (x'.envOK ok.b01 hE) k1 s.tm hv,fun i q d hq hqd hd=>?_,fun d hd=>?_⟩,by rw[Zl9];exact s.tm,by rw[Zm4];exact s.df⟩
  ·refine hM' i (hM i hi fun m hm hd=>hni m hm ?_) (hni j hjl ?_)
   ·unfold upd;split
    ·rfl
    ·exact hd
   ·unfold upd;rw[if_pos rfl]
  ·cases hpd:p.dst with
   | none=>
    show env d=_
    have hij:i≠j:=fun h=>by subst h;rw[hp] at hq;cases hq;rw[hpd] at hqd;cases hqd
    refine hV i q d hq hqd ?_
    unfold upd at hd;rw[if_neg hij] at hd;exact hd
   | some d'=>
    show(bif Nat.beq d' d then t.VV j else env d)=_
    cases hb:Nat.beq d' d with
    | true=>
     obtain rfl:=Nat.eq_of_beq_eq_true hb
     obtain rfl:=hk.dst i j q p d' hq hp hqd hpd
     rfl
    | false=>
     have hij:i≠j:=fun h=>by
      subst h;rw[hp] at hq;cases hq;rw[hpd] at hqd;cases hqd;rw[Nat.beq_refl] at hb;cases hb
     refine hV i q d hq hqd ?_
     unfold upd at hd;rw[if_neg hij] at hd;exact hd
  ·have h0:env d=e d:=hO d fun i q hq hqd=>by
    have:=hd i q hq hqd
    unfold upd at this
    by_cases hij:i=j
    ·rw[if_pos hij] at this;cases this
    ·rw[if_neg hij] at this;exact this
   cases hpd:p.dst with
   | none=>exact h0
   | some d'=>
    show(bif Nat.beq d' d then t.VV j else env d)=_
    cases hb:Nat.beq d' d with
    | false=>exact h0
    | true=>
     obtain rfl:=Nat.eq_of_beq_eq_true hb
     have:=hd j p hp hpd
     unfold upd at this;rw[if_pos rfl] at this;cases this
 have hlen:=ht.len_succ hjl
 have own:∀i m,m<l.length->(t.len m<=i/\i<t.len (m+1))->(t.len j<=i/\i<t.len (j+1))->m=j:=fun i m hm h1 h2=>ht.one hm hjl h1 h2
 have base:H.length<=t.len j:=by
  have:=ht.len_mono (a:=0) j (by omega) (by omega)
  unfold ZaP.len at this ⊢;rw[ht.h0] at this;exact this
 have free:∀i,t.len j<=i->i<t.len j+(t.NW j).length->R.M i=none:=fun i h1 h2=>hM i (by omega) fun m hm hd h=>by
  have:=own i m hm h ⟨h1,by omega⟩
  subst this;rw[hDj] at hd;cases hd
 rcases Nat.lt_or_ge (ZP p) 3 with hc | hc
 ·
  have hKd':∀m p,l[m]? = some p->m<K->3<=ZP p->upd D j m=true:=fun m p' h1 h2 h3=>by
   unfold upd;split
   ·rfl
   ·exact hKd m p' h1 h2 h3
  have hKn':K<l.length->∃p,l[K]? = some p/\3<=ZP p/\upd D j K=false:=fun h=>by
   obtain⟨q,h1,h2,h3⟩:=hKn h
   refine⟨q,h1,h2,?_⟩
   unfold upd;rw[if_neg (fun h=>by subst h;rw[hp] at h1;cases h1;omega)];exact h3
  have two:2<=ZP p->j<K/\∀m q,j<=m->m<K->l[m]? = some q->ZP q<=2:=fun h2=>by
   constructor
   ·rcases Nat.lt_or_ge j K with h | h
    ·exact h
    ·obtain⟨q,g1,g2,g3⟩:=hKn (by omega)
     rcases hk.order g1 hp g2 h2 with f | f | f
     ·subst f;rw[hp] at g1;cases g1;omega
     ·rw[down K f.2] at g3;cases g3
     ·omega
   ·intro m q h3 h4 hq
    rcases Nat.lt_or_ge (ZP q) 3 with h | h
    ·omega
    ·rcases hk.order hq hp h h2 with f | f | f
     ·subst f;rw[hp] at hq;cases hq;omega
     ·omega
     ·have:=downD j m (by omega) (hKd m q hq h4 h) f.2
      rw[hDj] at this;cases this
  have stg:∀i,(Zf5 t (upd D j) K)[i]? = if t.len j<=i/\i<t.len j+(t.NW j).length then (t.NW j)[i-t.len j]? else (Zf5 t D K)[i]?:=fun i=>by
   by_cases hi:t.len j<=i/\i<t.len j+(t.NW j).length
   ·rw[if_pos hi]
    have h2:=ht.new2 hp (i:=i) ⟨hi.1,by omega⟩
    obtain⟨t1,t2⟩:=two h2
    rw[Zef]
    ·rw[ht.stay (a:=j+1) K (by omega) hK (fun m q h3 h4 hq=>t2 m q (by omega) h4 hq) i (by omega),ht.stay1 hp (by omega),List.getElem?_append_right hi.1]
     rfl
    ·rw[Zhj]
     intro m hm h3 h4
     have:=own i m (by omega) ⟨h3,h4⟩ ⟨hi.1,by omega⟩
     unfold upd;rw[if_pos this]
   ·rw[if_neg hi,ZiK,ZiK]
    have:hid t (upd D j) K i=hid t D K i:=by
     rw[Bool.eq_iff_iff,Zo3,Zo3]
     constructor
     ·rintro ⟨m,h1,h2,h3⟩
      unfold upd at h2
      by_cases hm:m=j
      ·rw[if_pos hm] at h2;cases h2
      ·rw[if_neg hm] at h2;exact⟨m,h1,h2,h3⟩
     ·rintro ⟨m,h1,h2,h3,h4⟩
      have hm:m≠j:=fun h=>by subst h;omega
      exact⟨m,h1,by unfold upd;rw[if_neg hm];exact h2,h3,h4⟩
    rw[this]
  have hpl:t.UP j=[]:=ht.noUp hp (by omega)
  unfold wpOp
  simp only[ho]
  cases hw:t.W j with
  | false=>
   rw[hw] at hwant
   rw[hwant]
   simp only[Bool.false_eq_true,if_false]
   obtain⟨n1,n2,n3⟩:=ht.n j p hp hw
   refine fin K R undef w hK hKd' hKn' (Ext.refl R w) ok ?_ (fun i h _=>h) (by rw[n1];exact ZmB)
   rw[hH]
   apply List.ext_getElem?
   intro i
   rw[stg i,n3,if_neg (by rintro ⟨h1,h2⟩;simp at h2;omega)]
  | true=>
   rw[hw] at hwant
   rw[hwant]
   simp only[if_true]
   obtain⟨y1,y2⟩:=ht.y j p hp hw
   rw[hpl] at y1
   have see:ZP p<=2->∀i blk,(Zd4 (t.HH j) ([]++t.pos j) p.mask)[i]? = some blk->blk ≠ .dead->(t.HH j)[i]? = some blk/\∀m,m<j->t.len m<=i->i<t.len (m+1)->D m=true:=fun _ i blk h hd=>by
    obtain⟨h1,h2⟩:=Zk0 _ _ _ i blk h hd
    refine⟨h1,fun m hm h3 h4=>?_⟩
    have hq:l[m]? = some (l[m]'(by omega)):=List.getElem?_eq_getElem (by omega)
    rcases hk.early m j _ p hq hp hm with f | f | f
    ·omega
    ·exact down m f
    ·have h5:=h2 m f (t.len m) (t.NW m).length (by simp[ZaP.pos,hm,ZaP.len])
     have:=ht.len_succ (j:=m) (by omega)
     omega
   have hHm:∃Hm,(∀b blk,nth Hm b=some blk->blk ≠ .dead->nth R.H b=some blk)/\opE Γ cf env (t.len j) Hm p.op=some (t.VV j,[],t.NW j):=by
    rcases Nat.lt_or_ge (ZP p) 2 with h2 | h2
    ·rcases Zor (p:=p) (by omega) with⟨_,h0⟩ | ⟨h01,h1,hne⟩ | ⟨h01,he1⟩
     ·refine⟨[],fun b blk hb=>by simp[nth] at hb,?_⟩
      rw[hop,Zxa (nid':=(t.HH j).length) (H':=Zd4 (t.HH j) ([]++t.pos j) p.mask) h0];exact y1
     ·refine⟨R.H,fun b blk hb _=>hb,?_⟩
      rw[hop]
      refine Zw6 (H:=Zd4 (t.HH j) ([]++t.pos j) p.mask) (fun b blk hb hd=>?_) h1 y1
      rw[Zy] at hb
      obtain⟨g1,g2⟩:=see (by omega) b blk hb hd
      have hbj:b<t.len j:=(List.getElem?_eq_some_iff.1 g1).1
      have hbK:b<t.len K:=by
       rcases Nat.lt_or_ge j K with h | h
       ·have:=ht.len_mono (a:=j) K (by omega) hK;omega
       ·by_cases hb0:b<t.len 0
        ·have:=ht.len_mono (a:=0) K (by omega) hK;omega
        ·obtain⟨m,_,f2,f3,f4⟩:=ht.whose (a:=0) j (by omega) (by omega) (by omega) hbj
         have hdm:=g2 m f2 f3 f4
         have hq:l[m]? = some (l[m]'(by omega)):=List.getElem?_eq_getElem (by omega)
         have hmK:m<K:=by
          rcases Nat.lt_or_ge m K with h' | h'
          ·exact h'
          ·obtain⟨q,q1,q2,q3⟩:=hKn (by omega)
           rcases hk.order q1 hq q2 (ht.new2 hq ⟨f3,f4⟩) with f | f | f
           ·subst f;rw[hdm] at q3;cases q3
           ·rw[downD K m (by omega) hdm f.2] at q3;cases q3
           ·omega
         have:=ht.len_mono (a:=m+1) K (by omega) hK;omega
      have hhid:hid t D K b=false:=by
       rw[Zhj]
       intro m hm h3 h4
       rcases Nat.lt_or_ge m j with h | h
       ·exact g2 m h h3 h4
       ·have:=ht.len_mono (a:=j) m h (by omega);omega
      rw[Zy,hH,Zef hhid]
      have three:∀m q,l[m]? = some q->(j<=m/\m<K∨K<=m/\m<j)->ZP q<=3:=fun m q hq hm=>by
       rcases Nat.lt_or_ge (ZP q) 3 with h | h
       ·omega
       ·rcases hk.pair m j q p hq hp h with f | f | f | f | f | f
        ·subst f;rw[hp] at hq;cases hq;omega
        ·rcases hm with hm | hm
         ·have:=hk.lt j m hjl f;omega
         ·have hdm:=down m f
          obtain⟨q',q1,q2,q3⟩:=hKn (by omega)
          rcases hk.order q1 hq q2 (by omega) with g | g | g
          ·subst g;rw[hdm] at q3;cases q3
          ·rw[downD K m (by omega) hdm g.2] at q3;cases q3
          ·omega
        ·rcases hm with hm | hm
         ·have:=downD j m (by omega) (hKd m q hq hm.2 h) f
          rw[hDj] at this;cases this
         ·have:=hk.lt m j (by omega) f;omega
        ·omega
        ·omega
        ·exact absurd f.1 hne
      rcases Nat.le_total j K with h | h
      ·obtain⟨x1,y1',z1,z2,z3⟩:=ht.like hk (a:=j) K h hK (fun m q h3 h4 hq=>three m q hq (.inl ⟨h3,h4⟩)) b hbj
       rw[g1] at z1;cases z1
       exact⟨y1',z2,z3.elim (fun h=>h ▸ Blk.like_refl hd) id⟩
      ·obtain⟨x1,y1',z1,z2,z3⟩:=ht.like hk (a:=K) j h (by omega) (fun m q h3 h4 hq=>three m q hq (.inr ⟨h3,h4⟩)) b hbK
       rw[g1] at z2;cases z2
       exact⟨x1,z1,z3.elim (fun h=>by subst h;exact Blk.like_refl hd) Blk.like_symm⟩
     ·
      obtain⟨n0,ag0,s',hops,hgd⟩:∃n0 ag0 s',p.op = .load n0 ag0 (.t s')/\p.guard=none:=by
       have:=hk.eff1 j p hp
       unfold Zq1 at this
       rw[he1] at this
       change (match p.op,p.guard with | .load _ _ (.t _),none=>true | _,_=>false)=true at this
       split at this
       ·exact⟨_,_,_,by assumption,by assumption⟩
       ·cases this
      have hsl:s'∈Zbg p:=by unfold Zbg;rw[hops];simp[Zsf,ZvL]
      have hjK:j<K:=by
       rcases Nat.lt_or_ge j K with h | h
       ·exact h
       ·obtain⟨q,g1,g2,g3⟩:=hKn (by omega)
        rcases hk.pair K j q p g1 hp g2 with f | f | f | f | f | f
        ·subst f;rw[hp] at g1;cases g1;omega
        ·rw[down K f] at g3;cases g3
        ·have:=hk.lt K j (by omega) f;omega
        ·omega
        ·exact absurd he1 f.2.2
        ·omega
      have ldE:∀(Hx:Zc) (k:Nat),opE Γ cf (t.E j) k Hx p.op=(match Zbv Hx n0 ag0 (t.E j s') with | some v=>ZaG v | none=>none):=fun Hx k=>by rw[hops];rfl
      rw[ldE] at y1
      have hyl:Zbv (Zd4 (t.HH j) ([]++t.pos j) p.mask) n0 ag0 (t.E j s')=some (t.VV j)/\t.NW j=[]:=by
       cases hl:Zbv (Zd4 (t.HH j) ([]++t.pos j) p.mask) n0 ag0 (t.E j s') with
       | none=>rw[hl] at y1;cases y1
       | some v=>
        rw[hl] at y1
        obtain⟨rfl,_,h3⟩:=ZF y1
        exact⟨rfl,h3⟩
      obtain⟨hyl,hnw⟩:=hyl
      have key:∀k,j<=k->k<=K->Zbv (t.HH k) n0 ag0 (t.E j s')=some (t.VV j):=by
       intro k
       induction k with
       | zero=>
        intro h _
        have:j=0:=by omega
        subst this
        exact ZiA hyl fun b _ blk hb hd=>(see (by omega) b blk hb hd).1
       | succ k ih=>
        intro hjk hkK
        by_cases hjk':j=k+1
        ·subst hjk'
         exact ZiA hyl fun b _ blk hb hd=>(see (by omega) b blk hb hd).1
        ·have ih':=ih (by omega) (by omega)
         have hq:l[k]? = some (l[k]'(by omega)):=List.getElem?_eq_getElem (by omega)
         have app:∀(Ha Hb:Zc),Zbv Ha n0 ag0 (t.E j s')=some (t.VV j)->Zbv (Ha++Hb) n0 ag0 (t.E j s')=some (t.VV j):=fun Ha Hb hl=>
          ZiA hl fun b _ blk hb _=>by rw[List.getElem?_append_left (List.getElem?_eq_some_iff.1 hb).1];exact hb
         rcases Nat.lt_or_ge (ZP (l[k]'(by omega))) 3 with h | h
         ·rw[ht.stay1 hq (by omega)]
          exact app _ _ ih'
         ·rcases hk.pair k j _ p hq hp h with f | f | f | f | f | f
          ·subst f
           rw[hp] at hq
           have hq':=Option.some.inj hq
           rw[<- hq'] at h
           omega
          ·have:=hk.lt j k hjl f;omega
          ·have:=downD j k (by omega) (hKd k _ hq (by omega) h) f
           rw[hDj] at this;cases this
          ·omega
          ·exact absurd he1 f.2.2
          ·cases hwk:t.W k with
           | false=>
            obtain⟨_,n2,n3⟩:=ht.n k _ hq hwk
            rw[ht.h k _ hq,n2,n3]
            exact app _ _ ih'
           | true=>
            have zc:=(Zku (ht.y k _ hq hwk).2).2
            have hkp:=f.2.2
            unfold ZuR at hkp
            rw[hops] at hkp
            split at hkp
            ·rename_i f' args chk s'' hopk hsx
             cases hsx
             rw[hopk] at zc
             obtain⟨i0,q1,q2⟩:=ZqZ (show Zth (t.E k) (t.HH k) (Za4 (t.HH k) (t.UP k)) chk=true from zc) hkp
             rw[ht.envs hk hp he1 hsl k (by omega) (by omega)] at q1 q2
             rw[q1] at ih'
             rw[ht.h k _ hq]
             exact app _ _ (q2.trans ih')
            ·rename_i m' x' y' chk n' a' s'' hopk hsx
             cases hsx
             rw[hopk] at zc
             have ap:=Zmn (show ZkS (t.E k) (t.UP k) chk=true from zc) hkp
             rw[ht.envs hk hp he1 hsl k (by omega) (by omega)] at ap
             rw[ht.h k _ hq]
             refine app _ _ (ZiA ih' fun b hb blk hbk _=>?_)
             rw[ZpS (ap b hb)]
             exact hbk
            ·cases hkp
      refine⟨R.H,fun b blk hb _=>hb,?_⟩
      rw[hop,ldE]
      have:Zbv R.H n0 ag0 (t.E j s')=some (t.VV j):=by
       refine ZiA (key K (by omega) (Nat.le_refl _)) fun b hb blk hbk hd=>?_
       obtain⟨blk0,h5,h6⟩:=Zs5 hyl hb
       obtain⟨g1,g2⟩:=see (by omega) b blk0 h5 h6
       have hbj:b<t.len j:=(List.getElem?_eq_some_iff.1 g1).1
       rw[hH,Zef]
       ·exact hbk
       ·rw[Zhj]
        intro m hm h3 h4
        rcases Nat.lt_or_ge m j with h | h
        ·exact g2 m h h3 h4
        ·have:=ht.len_mono (a:=j) m h (by omega);omega
      rw[this,hnw];rfl
    ·obtain⟨t1,t2⟩:=two h2
     refine⟨_,fun b blk hb hd=>?_,by rw[hop];exact y1⟩
     rw[Zy] at hb
     obtain⟨g1,g2⟩:=see (by omega) b blk hb hd
     have hbj:b<t.len j:=(List.getElem?_eq_some_iff.1 g1).1
     rw[Zy,hH,Zef,ht.stay K (by omega) hK t2 b hbj]
     ·exact g1
     ·rw[Zhj]
      intro m hm h3 h4
      rcases Nat.lt_or_ge m j with h | h
      ·exact g2 m h h3 h4
      ·have:=ht.len_mono (a:=j) m h (by omega);omega
   obtain⟨Hm,hle,hop'⟩:=hHm
   have pre:Pre G R w env a Hm:=⟨ok,x.gok c.ok.b01 c.g,hE,hle⟩
   have hplaced:ZA R.H [] (t.len j) (t.NW j) (Zf5 t (upd D j) K):=fun i=>by rw[stg i,hH];rfl
   refine .inl ((ZsD pre c.cf k3 hop' free hplaced).wp fun u w' hpost=>?_)
   obtain⟨R',x',ok',hH',hv,hM'⟩:=hpost
   exact fin K R' u w' hK hKd' hKn' x' ok' hH' (fun i h1 h2=>hM' i h1 (by omega)) hv
 ·
  have hjK:j=K:=by
   rcases Nat.lt_trichotomy j K with h | h | h
   ·rw[hKd j p hp h hc] at hDj;cases hDj
   ·exact h
   ·obtain⟨q,g1,g2,g3⟩:=hKn (by omega)
    rcases hk.order g1 hp g2 (by omega) with f | f | f
    ·omega
    ·rw[down K f.2] at g3;cases g3
    ·omega
  subst hjK
  have below:∀m q,l[m]? = some q->m<j->2<=ZP q->D m=true:=fun m q hq hm h2=>by
   rcases hk.order hp hq hc h2 with f | f | f
   ·omega
   ·omega
   ·exact down m f.2
  have above:∀m q,l[m]? = some q->j<m->2<=ZP q->D m=false:=fun m q hq hm h2=>by
   cases hd:D m with
   | false=>rfl
   | true=>
    rcases hk.order hp hq hc h2 with f | f | f
    ·omega
    ·have:=downD j m (List.getElem?_eq_some_iff.1 hq).1 hd f.2
     rw[hDj] at this;cases this
    ·omega
  have full:Zf5 t D j=t.HH j:=by
   apply List.ext_getElem?
   intro i
   refine Zef (Zhj.2 fun m hm h3 h4=>?_)
   have hq:l[m]? = some (l[m]'(by omega)):=List.getElem?_eq_getElem (by omega)
   exact below m _ hq hm (ht.new2 hq ⟨h3,h4⟩)
  rw[full] at hH
  have go:∀(R':RP) (u:Value) (w':World),Ext R w R' w'->R'.OK w'->R'.H=t.HH (j+1)->(∀i,R.M i=none->¬(t.len j<=i/\i<t.len (j+1))->R'.M i=none)->ZS R' w' (t.VV j) u->Zs8 P N t l os e H Rf wf (upd D j) (a.put o.dst u) w':=by
   intro R' u w' x' ok' hH' hM' hv
   obtain⟨K',g1,g2,g3,g4,g5⟩:=Zt4 ht (D:=upd D j) (s:=j+1) (by omega) ok' hH' (fun m q hq hm h2=>by
    unfold upd
    by_cases hmj:m=j
    ·rw[if_pos hmj]
    ·rw[if_neg hmj];exact below m q hq (by omega) h2) (fun m q hq hm h2=>by
    unfold upd;rw[if_neg (by omega)];exact above m q hq (by omega) h2)
   exact fin K' _ u w' g1 g2 g3 (x'.trans g4) g5 rfl hM' (g4.denV ok'.b01 _ _ hv)
  unfold wpOp
  simp only[ho]
  cases hw:t.W j with
  | false=>
   rw[hw] at hwant
   rw[hwant]
   simp only[Bool.false_eq_true,if_false]
   obtain⟨n1,n2,n3⟩:=ht.n j p hp hw
   refine go R undef w (Ext.refl R w) ok ?_ (fun i h _=>h) (by rw[n1];exact ZmB)
   rw[hH,ht.h j p hp,n2,n3];simp[Za4]
  | true=>
   rw[hw] at hwant
   rw[hwant]
   simp only[if_true]
   obtain⟨y1,y2⟩:=ht.y j p hp hw
   rw[hk.mask j p hp hc] at y1
   have pre:Pre G R w env a (t.HH j):=⟨ok,x.gok c.ok.b01 c.g,hE,fun b blk hb _=>by rw[hH];exact hb⟩
   have hplaced:ZA R.H (t.UP j) (t.len j) (t.NW j) (t.HH (j+1)):=by
    rw[hH,ht.h j p hp];exact ZfN _ _ _
   refine .inl ((ZsD pre c.cf k3 (by rw[hop];exact y1) free hplaced).wp fun u w' hpost=>?_)
   obtain⟨R',x',ok',hH',hv,hM'⟩:=hpost
   exact go R' u w' x' ok' hH' (fun i h1 h2=>hM' i h1 (by omega)) hv
theorem ZoI {p q:Nat->Bool}:∀(l:List Nat) (j:Nat),(∀x,q x=true->p x=true)->j∈l->p j=true->q j=false->l.countP q<l.countP p
 | [],j,_,h,_,_=>by cases h
 | x :: l,j,hq,h,h1,h2=>by
  have mono:∀l:List Nat,l.countP q<=l.countP p:=fun l=>List.countP_mono_left fun x _ h=>hq x h
  rw[List.countP_cons,List.countP_cons]
  by_cases hx:x=j
  ·subst hx
   have:=mono l
   rw[h1,h2];simp;omega
  ·have:=ZoI l j hq ((List.mem_cons.1 h).resolve_left (fun h=>hx h.symm)) h1 h2
   cases hqx:q x with
   | true=>rw[hq x hqx];simp;omega
   | false=>cases hpx:p x<;>simp<;>omega
theorem Zt6 (c:Zf7 P G cf Rf wf) (hlo:Rf.H.length<=H.length) (ht:t.OK Γ cf [] l e H e' H') (hk:Chk P G N os l B) {Q:Exit->Act->World->Prop} (hQ:∀D a w,(∀j,j<l.length->D j=true)->Zs8 P N t l os e H Rf wf D a w->Q .normal a w) :
  ∀(fuel:Nat) (listed:Array Bool) (a:Act) (w:World),listed.size=os.size->Zs8 P N t l os e H Rf wf (fun j=>listed.getD j false) a w->(List.range os.size).countP (fun j=>!listed.getD j false)<=fuel->wpAny P .any os Q fuel listed a w:=by
 have full:∀(listed:Array Bool),listed.size=os.size->(Region.ready .any os listed=[])->∀j,j<l.length->listed.getD j false=true:=by
  intro listed hsz hr j
  induction j using Nat.strongRecOn with
  | ind j ih=>
   intro hj
   have hjs:j<os.size:=by rw[hk.len];exact hj
   cases hd:listed.getD j false with
   | true=>rfl
   | false=>
    have:j∈Region.ready .any os listed:=by
     rw[mem_ready]
     refine⟨?_,os[j],Array.getElem?_eq_getElem hjs,fun ed he hb=>?_⟩
     ·simp only[Array.getD_eq_getD_getElem?] at hd ⊢
      rw[Array.getElem?_eq_getElem (by omega)] at hd ⊢;exact hd
     ·have hlt:=hk.pre j _ (Array.getElem?_eq_getElem hjs) ed.on (by
       unfold ZkH
       exact List.mem_map.2 ⟨ed,List.mem_filter.2 ⟨by simpa using he,hb⟩,rfl⟩)
      exact ih ed.on hlt (by omega)
    rw[hr] at this;cases this
 intro fuel
 induction fuel with
 | zero=>
  intro listed a w hsz s hc
  have hall:∀j,j<l.length->listed.getD j false=true:=fun j hj=>by
   cases hd:listed.getD j false with
   | true=>rfl
   | false=>
    have h1:0<(List.range os.size).countP (fun j=>!listed.getD j false):=List.countP_pos_iff.2 ⟨j,by simp[hk.len,hj],by simp only[hd];rfl⟩
    omega
  refine⟨?_,hQ _ a w hall s⟩
  apply List.eq_nil_iff_forall_not_mem.2
  intro j hj
  obtain⟨h1,o,h2,_⟩:=mem_ready.1 hj
  have hjs:=(Array.getElem?_eq_some_iff.1 h2).1
  have:=hall j (by rw[<- hk.len];exact hjs)
  simp only[Array.getD_eq_getD_getElem?] at h1 this
  rw[Array.getElem?_eq_getElem (by omega)] at h1 this
  simp at h1 this;rw[h1] at this;cases this
 | succ fuel ih=>
  intro listed a w hsz s hc
  refine⟨fun hr=>hQ _ a w (full listed hsz hr) s,fun j hj=>?_⟩
  obtain⟨h1,o,h2,h3⟩:=mem_ready.1 hj
  have hjs:=(Array.getElem?_eq_some_iff.1 h2).1
  have hd:listed.getD j false=false:=by
   simp only[Array.getD_eq_getD_getElem?] at h1 ⊢
   rw[Array.getElem?_eq_getElem (by omega)] at h1 ⊢;exact h1
  have hup:upd (fun j=>listed.getD j false) j=fun k=>(listed.setIfInBounds j true).getD k false:=by
   funext k
   unfold upd
   by_cases hkj:k=j
   ·subst hkj
    rw[if_pos rfl]
    simp[Array.getD_eq_getD_getElem?,hsz,hjs]
   ·rw[if_neg hkj,getD_set_ne false (fun h=>hkj h.symm)]
  refine wpOp_mono (fun a' w' s'=>ih _ a' w' (by simp[hsz]) s' ?_) (hup ▸ step c hlo ht hk s h2 hd fun i hi=>?_)
  ·have:=ZoI (p:=fun j=>!listed.getD j false) (q:=fun k=>!(listed.setIfInBounds j true).getD k false) (List.range os.size) j (fun k hk'=>by
    by_cases hkj:j=k
    ·subst hkj;simp only[hd];rfl
    ·rw[getD_set_ne false hkj] at hk';exact hk') (by simp[hjs]) (by simp only[hd];rfl) (by simp[Array.getD_eq_getD_getElem?,hsz,hjs])
   omega
  ·unfold ZkH at hi
   obtain⟨ed,f1,rfl⟩:=List.mem_map.1 hi
   obtain⟨f2,f3⟩:=List.mem_filter.1 f1
   exact h3 ed (by simpa using f2) f3
end
theorem ZwQ {P:Program}{G:ZQ}{N:Nat}{Γ:Ctx}{cf:ZX}:Zjw P G N Γ cf (Zig P G N):=by
 intro id os l Rf wf e H e' H' a w hok hd c s
 obtain⟨B,hk⟩:=ZrC hok
 obtain⟨t,ht⟩:=Zmw l [] e H e' H' hd
 obtain⟨R,x,ok,hH,hM,hE⟩:=s.ex
 refine wp_region_any hk.mixed ?_
 have xd:Ext R w R { w with drawn:=w.drawn+1 }:=Ext.draw rfl rfl rfl rfl
 have okd:R.OK { w with drawn:=w.drawn+1 }:=ok.draw rfl rfl rfl rfl
 refine Zt6 c s.hl ht hk (fun D a' w' hall s'=>?_) os.size _ a _ (by simp) ?_ ?_
 ·obtain⟨K,R',env,h1,h2,h3,x',ok',hH',hM',hE',hV,hO⟩:=s'.ex
  have hKl:K=l.length:=by
   rcases Nat.lt_or_ge K l.length with h | h
   ·obtain⟨_,_,_,h4⟩:=h3 h
    rw[hall K h] at h4;cases h4
   ·omega
  subst hKl
  have hHe:Zf5 t D l.length=H':=by
   rw[<- ht.h1]
   apply List.ext_getElem?
   intro i
   exact Zef (Zhj.2 fun m hm _ _=>hall m hm)
  have hle:H.length<=H'.length:=by
   have:=ht.len_mono (a:=0) l.length (by omega) (Nat.le_refl _)
   unfold ZaP.len at this;rw[ht.h0,ht.h1] at this;exact this
  have henv:∀d,env d=e' d:=fun d=>by
   rw[<- ht.e1]
   by_cases hx:∃(i:Nat) (q:Op1),l[i]? = some q/\q.dst=some d
   ·obtain⟨i,q,hq,hqd⟩:=hx
    have hi:=(List.getElem?_eq_some_iff.1 hq).1
    rw[hV i q d hq hqd (hall i hi),ht.envd hk hq hqd l.length hi (Nat.le_refl _)]
   ·have hn:∀(i:Nat) (q:Op1),l[i]? = some q->q.dst≠some d:=fun i q hq hqd=>hx ⟨i,q,hq,hqd⟩
    rw[hO d fun i q hq hqd=>absurd hqd (hn i q hq),ht.env0 l.length (Nat.le_refl _) fun i q _ hq=>hn i q hq]
  refine⟨rfl,⟨⟨R',x',ok',by rw[hH',hHe],fun i hi=>hM' i (by omega) fun j hj _ hb=>?_,fun d=>by rw[<- henv d];exact hE' d⟩,s'.tm,s'.df,by have:=s.hl;omega⟩⟩
  have:=ht.len_mono (a:=j+1) l.length (by omega) (Nat.le_refl _)
  have h2:t.len l.length=H'.length:=by unfold ZaP.len;rw[ht.h1]
  omega
 ·have hf:∀j,(Array.replicate os.size false).getD j false=false:=fun j=>by
   by_cases hj:j<os.size<;>simp[Array.getD_eq_getD_getElem?,hj]
  obtain⟨K,g1,g2,g3,g4,g5⟩:=Zt4 ht (D:=fun j=>(Array.replicate os.size false).getD j false) (s:=0) (Nat.zero_le _) okd (by rw[ht.h0];exact hH) (fun m p _ hm=>by omega) (fun m p _ _ _=>hf m)
  refine⟨fun j o _ hd=>(by rw[hf j] at hd;cases hd),⟨K,_,e,g1,g2,g3,(x.trans xd).trans g4,g5,rfl,fun i hi _=>hM i hi,g4.envOK okd.b01 (xd.envOK ok.b01 hE),fun j p d _ _ hd=>(by rw[hf j] at hd;cases hd),fun d _=>rfl⟩,s.tm,s.df⟩
 ·exact Nat.le_trans List.countP_le_length (by simp)
theorem Zt1 {P:Program}{G:ZQ}{Γ:Ctx} (hall:∀f fn,Γ.code f=some fn->Zpv P G (fun N=>Zig P G N) f fn=true∨ZkJ P G f fn):Zdv P G (evW Γ):=
 ZxS (fun _ _ _=>ZwQ) hall
end Go.Proofs.YtgcfmiajkbbmeaaGreatE
namespace Go.Proofs.YtgcfmiajkbbmeaaGreat
open Go Go.Proofs Go.Proofs.YtgcfmiajkbbmeaaGreatE
open Go.IntKind (u64 i64 u32 i32 u8)
theorem Zug (x:Int):0<=u64.wrap x/\u64.wrap x<18446744073709551616:=by
 have:u64.wrap x=x % 18446744073709551616:=by simp[IntKind.wrap,IntKind.bits,IntKind.signed]
 omega
theorem tz0 (n:Int) (w:World) (hw:∀i,i<64->∃m,w.cell? ⟨1,i,none⟩=some (.int .u8 m)):Calls Tryz.prog 207 #[.int .u64 n] w fun e w'=>∃u,e = .returned u/\w'=w:=by
 have hr:=Zug (bits BinOp.and u64 n (u64.wrap (-n))*285870213051353865)
 obtain⟨m,hm⟩:=hw (u64.wrap (bits BinOp.and u64 n (u64.wrap (-n))*285870213051353865) / 288230376151711744).toNat (by omega)
 go_enter Tryz.func207,Tryz.ntmps207
 go_wp2
 all_goals
  go_ret
  exact⟨_,rfl,rfl⟩
theorem ZrI:∀l:List (IntKind×Int),gD l=l.map fun x=>D.int x.1 x.2
 | []=>rfl
 | x :: r=>by show _ :: gD r=_;rw[ZrI r];rfl
theorem ZyQ {G:ZQ}{row:List (IntKind×Int)} (hg:G 1=some row) (hl:row.length=64) (hk:∀x∈row,x.1 = .u8):ZuS Tryz.prog G 207:=by
 intro n R w ok g
 refine tz0 n w fun i hi=>?_
 obtain⟨b,off,h1,_,_,h2⟩:=g 1 row hg
 cases h1
 have hx:(gD row)[i]? = some (.int row[i].1 row[i].2):=by rw[ZrI,List.getElem?_map,List.getElem?_eq_getElem (by omega)];rfl
 obtain⟨u,q1,q2⟩:=Zf0 _ _ _ _ h2 hx
 have hu:u = .int row[i].1 row[i].2:=q2
 rw[hk _ (List.getElem_mem _)] at hu
 rw[Nat.zero_add] at q1
 exact⟨_,by rw[q1,hu]⟩
def Zmr (G:ZQ):Prop:=∃row:List (IntKind×Int),G 1=some row/\row.length=64/\∀x∈row,x.1 = .u8
theorem ZwM {G:ZQ} (hG:Zmr G):ZuS Tryz.prog G 207:=by
 obtain⟨row,h1,h2,h3⟩:=hG
 exact ZyQ h1 h2 h3
open Go Go.Proofs Go.Proofs.YtgcfmiajkbbmeaaGreatE Go.Shelf Go.Sort
def Zwq:Ren:=⟨fun | 189=>110 | 125=>117 | 257=>116 | 128=>131 | 129=>132 | 294=>122 | 295=>123 | 296=>124 | 297=>125 | 298=>126 | 299=>127 | 216=>128 | 300=>129 | 301=>130 | 328=>136 | 329=>137 | 330=>138 | 331=>139 | 332=>140 | 215=>141 | 343=>142 | n=>n,fun | 28=>22 | 3=>3 | 46=>155 | 0=>0 | 51=>169 | 53=>171 | 4=>4 | 183=>163 | 182=>162 | 131=>149 | 5=>5 | 9=>9 | 218=>175 | 222=>179 | 228=>181 | 229=>182 | n=>n,fun n=>n⟩
theorem Zqs:Lays.n189 Tryz.prog Zwq where
 mixed:=by kernel_rfl
 f125:=Tryz.func117.trans (congrArg some (by kernel_rfl))
 f128:=Tryz.func131.trans (congrArg some (by kernel_rfl))
 f129:=Tryz.func132.trans (congrArg some (by kernel_rfl))
 f189:=Tryz.func110.trans (congrArg some (by kernel_rfl))
 f215:=Tryz.func141.trans (congrArg some (by kernel_rfl))
 f216:=Tryz.func128.trans (congrArg some (by kernel_rfl))
 f257:=Tryz.func116.trans (congrArg some (by kernel_rfl))
 f294:=Tryz.func122.trans (congrArg some (by kernel_rfl))
 f295:=Tryz.func123.trans (congrArg some (by kernel_rfl))
 f296:=Tryz.func124.trans (congrArg some (by kernel_rfl))
 f297:=Tryz.func125.trans (congrArg some (by kernel_rfl))
 f298:=Tryz.func126.trans (congrArg some (by kernel_rfl))
 f299:=Tryz.func127.trans (congrArg some (by kernel_rfl))
 f300:=Tryz.func129.trans (congrArg some (by kernel_rfl))
 f301:=Tryz.func130.trans (congrArg some (by kernel_rfl))
 f328:=Tryz.func136.trans (congrArg some (by kernel_rfl))
 f329:=Tryz.func137.trans (congrArg some (by kernel_rfl))
 f330:=Tryz.func138.trans (congrArg some (by kernel_rfl))
 f331:=Tryz.func139.trans (congrArg some (by kernel_rfl))
 f332:=Tryz.func140.trans (congrArg some (by kernel_rfl))
 f343:=Tryz.func142.trans (congrArg some (by kernel_rfl))
 t0:=Tryz.underlying0
 a0:=Tryz.isAgg0
 z0:=Tryz.sizeOf0
 v0:=Tryz.zeroValue0
 t3:=Tryz.underlying3
 a3:=Tryz.isAgg3
 z3:=Tryz.sizeOf3
 v3:=Tryz.zeroValue3
 t4:=Tryz.underlying4
 a4:=Tryz.isAgg4
 z4:=Tryz.sizeOf4
 v4:=Tryz.zeroValue4
 t5:=Tryz.underlying5
 a5:=Tryz.isAgg5
 z5:=Tryz.sizeOf5
 v5:=Tryz.zeroValue5
 t9:=Tryz.underlying9
 a9:=Tryz.isAgg9
 z9:=Tryz.sizeOf9
 v9:=Tryz.zeroValue9
 t28:=Tryz.underlying22
 a28:=Tryz.isAgg22
 z28:=Tryz.sizeOf22
 v28:=Tryz.zeroValue22
 t46:=Tryz.underlying155
 a46:=Tryz.isAgg155
 z46:=Tryz.sizeOf155
 v46:=Tryz.zeroValue155
 t51:=Tryz.underlying169
 a51:=Tryz.isAgg169
 z51:=Tryz.sizeOf169
 v51:=Tryz.zeroValue169
 t53:=Tryz.underlying171
 a53:=Tryz.isAgg171
 z53:=Tryz.sizeOf171
 v53:=Tryz.zeroValue171
 t131:=Tryz.underlying149
 a131:=Tryz.isAgg149
 z131:=Tryz.sizeOf149
 v131:=Tryz.zeroValue149
 t182:=Tryz.underlying162
 a182:=Tryz.isAgg162
 z182:=Tryz.sizeOf162
 v182:=Tryz.zeroValue162
 t183:=Tryz.underlying163
 a183:=Tryz.isAgg163
 z183:=Tryz.sizeOf163
 v183:=Tryz.zeroValue163
 t218:=Tryz.underlying175
 a218:=Tryz.isAgg175
 z218:=Tryz.sizeOf175
 v218:=Tryz.zeroValue175
 t222:=Tryz.underlying179
 a222:=Tryz.isAgg179
 z222:=Tryz.sizeOf179
 v222:=Tryz.zeroValue179
 t228:=Tryz.underlying181
 a228:=Tryz.isAgg181
 z228:=Tryz.sizeOf181
 v228:=Tryz.zeroValue181
 t229:=Tryz.underlying182
 a229:=Tryz.isAgg182
 z229:=Tryz.sizeOf182
 v229:=Tryz.zeroValue182
theorem Zkw (x:Int):∀l:List Int,(ZoX x l).Perm (x :: l)
 | []=>.refl _
 | y :: r=>by
  unfold ZoX
  cases decide (x<=y) with
  | true=>exact .refl _
  | false=>exact((Zkw x r).cons y).trans (.swap x y r)
theorem Zk7 (x:Int):∀l:List Int,l.Pairwise (· <= ·)->(ZoX x l).Pairwise (· <= ·)
 | [],_=>by simp[ZoX]
 | y :: r,h=>by
  have h':=List.pairwise_cons.1 h
  unfold ZoX
  cases hd:decide (x<=y) with
  | true=>
   have hxy:=of_decide_eq_true hd
   refine List.pairwise_cons.2 ⟨fun z hz=>?_,h⟩
   rcases List.mem_cons.1 hz with rfl | hz
   ·exact hxy
   ·exact Int.le_trans hxy (h'.1 z hz)
  | false=>
   have hxy:=of_decide_eq_false hd
   refine List.pairwise_cons.2 ⟨fun z hz=>?_,Zk7 x r h'.2⟩
   rcases List.mem_cons.1 ((Zkw x r).mem_iff.1 hz) with rfl | hz
   ·omega
   ·exact h'.1 z hz
theorem Zjq:∀l:List Int,(sortI l).Perm l
 | []=>.refl _
 | x :: r=>(Zkw x _).trans ((Zjq r).cons x)
theorem Zhp:∀l:List Int,(sortI l).Pairwise (· <= ·)
 | []=>.nil
 | x :: r=>Zk7 x _ (Zhp r)
theorem ZpO (l:List Int):l.mergeSort (fun x y=>decide (x<=y))=sortI l:=by
 have h1:(l.mergeSort (fun x y=>decide (x<=y))).Pairwise (· <= ·):=by
  have:=List.pairwise_mergeSort (le:=fun x y:Int=>decide (x<=y)) (fun a b c h1 h2=>by simp only[decide_eq_true_eq] at *;omega) (fun a b=>by simp only[Bool.or_eq_true,decide_eq_true_eq];omega) l
  exact this.imp fun h=>of_decide_eq_true h
 exact((List.mergeSort_perm l _).trans (Zjq l).symm).eq_of_pairwise (le:=(· <= ·)) (fun a b _ _ h1 h2=>Int.le_antisymm h1 h2) h1 (Zhp l)
theorem Zy9:ZpD Tryz.prog 110 where
 nil p cap w:=Any.slices_Sort_int_none Zqs p cap w
 all zs c cs el cap w hl hc hcs:=by
  have hcl:c<w.heap.size:=(Array.getElem?_eq_some_iff.1 hc).1
  have hH:Holds (Value.int .i64) w c 0 zs.toArray:=fun j hj=>by
   have hj':j<zs.length:=by simpa using hj
   refine⟨?_,by simp[World.frozen?,hc]⟩
   simp only[World.cell?,hc,Nat.zero_add]
   have:=hcs j zs[j] (List.getElem?_eq_getElem hj')
   simp[this,hj']
  refine(Any.slices_Sort_int Zqs c 0 cap zs w hH hcl (Nat.lt_of_le_of_lt hl (by decide))).mono ?_
  rintro e w' ⟨rfl,n,os,rfl⟩
  rw[ZpO]
  have hget:∀b,(putRow (Value.int .i64) (Go.Sort.ahead w n) c 0 (sortI zs).toArray).heap[b]? = if c=b then (w.heap[b]?).map (onCells (putCells (Value.int .i64) 0 (sortI zs).toArray)) else w.heap[b]?:=fun b=>by
   show(w.heap.modify c _)[b]? = _
   rw[Array.getElem?_modify]
  have hsz:(putRow (Value.int .i64) (Go.Sort.ahead w n) c 0 (sortI zs).toArray).heap.size=w.heap.size:=by
   show(w.heap.modify c _).size=_
   simp
  refine⟨rfl,putRow (Value.int .i64) (Go.Sort.ahead w n) c 0 (sortI zs).toArray,putCells (Value.int .i64) 0 (sortI zs).toArray cs,?_,?_,?_,?_,hsz,rfl,rfl,rfl,?_,?_,rfl,rfl,rfl⟩
  ·rw[hget,if_pos rfl,hc];rfl
  ·simp[putCells]
  ·intro j x hj
   have hjl:j<(sortI zs).length:=(List.getElem?_eq_some_iff.1 hj).1
   have hx:(sortI zs)[j]=x:=(List.getElem?_eq_some_iff.1 hj).2
   have hjz:j<zs.length:=by rw[<- Zky zs];exact hjl
   have h1:=hcs j zs[j] (List.getElem?_eq_getElem hjz)
   simp only[putCells,Array.getElem?_mapIdx,h1,Option.map_some]
   simp[hjl,hx]
  ·intro c' hne
   rw[hget,if_neg (fun h=>hne h.symm)]
  ·intro b hb
   exact heap_grow_old _ _ hb
  ·show _<=((putRow (Value.int .i64) (Go.Sort.ahead w n) c 0 (sortI zs).toArray).heap++os).size
   simp
open Go Go.Proofs.YtgcfmiajkbbmeaaGreatE
def okL:List (Nat×FnI):=[(3,fn3),(9,fn9),(10,ZxH),(11,ZyJ),(12,Zx4),(13,Zyx),(14,ZyT),(15,ZyE),(16,ZyP),(17,ZyW),(18,ZyR),(20,ZzN),(22,Zz3),(25,ZAn),(28,ZzB),(33,ZAA),(34,ZxX),(35,Zyq),(36,ZyK),(37,ZyI),(38,ZxB),(39,ZxA),(40,ZxD),(41,Zyf),(42,ZyX),(43,Zyl),(45,Zyh),(52,ZAG),(53,ZAM),(55,ZxW),(56,Zz0),(59,Zzh),(60,Zy3),(61,ZzQ),(62,ZxY),(63,Zyj),(64,Zx3),(65,ZyY),(66,Zu1),(67,Zx2),(68,ZxF),(69,ZyH),(70,Zyw),(71,Zyk),(83,Zzo),(84,ZAb),(85,Zza),(86,ZAc),(87,Zz8),(88,Zym),(89,Zyb),(90,ZAm),(91,ZzP),(92,ZxE),(94,ZAk),(95,Zz5),(96,Zzv),(97,ZzZ),(98,ZAy),(99,ZsQ),(100,ZvE),(108,Zxk),(109,ZuM),(159,Zxz),(160,Zvt),(161,Zt5),(162,ZvR),(163,Zxy),(164,Zv5),(165,Zuh),(166,Zup),(167,Zxd),(168,Zxx),(169,ZuV),(170,ZuB),(171,Zuu),(172,Zuz),(173,ZvN),(174,Zvs),(175,ZvB),(176,Zt9),(177,ZtT),(178,Zvl),(179,ZvZ),(180,Zt7),(181,Zv8),(182,Zvo),(183,ZvI),(184,ZtP),(185,ZvH),(186,Zuq),(187,ZtQ),(188,Zvy),(189,ZuW),(190,Zu7),(191,ZvM),(192,ZtM),(193,Zus),(194,Zuc),(195,Zvg),(196,ZuC),(197,ZuD),(198,ZvW),(199,ZuL),(200,Zvw),(201,Zu9),(202,Zut),(203,Zv2),(204,Zxg),(205,ZvS),(208,Zud),(209,Zvp),(210,Zv1),(211,Zu0),(212,Zvn),(213,Zvr),(214,Zu6),(215,Zxo),(216,Zum),(217,ZtU),(218,Zvi),(219,ZvO),(220,Zvc)]
theorem ZBw (G:ZQ):okL.all (fun x=>Zpv Tryz.prog G (fun N=>Zig Tryz.prog G N) x.1 x.2)=true:=by kernel_rfl
theorem okZ (G:ZQ) (i:Nat) {x:Nat×FnI} (h:okL[i]? = some x):Zpv Tryz.prog G (fun N=>Zig Tryz.prog G N) x.1 x.2=true:=List.all_eq_true.1 (ZBw G) x (List.mem_of_getElem? h)
theorem Zx9 (G:ZQ) (hG:Zmr G):∀f fn,code f=some fn->Zpv Tryz.prog G (fun N=>Zig Tryz.prog G N) f fn=true∨ZkJ Tryz.prog G f fn:=by
 intro f fn h
 unfold code at h
 split at h
 ·cases h;exact .inl (okZ G 0 rfl)
 ·cases h;exact .inl (okZ G 1 rfl)
 ·cases h;exact .inl (okZ G 2 rfl)
 ·cases h;exact .inl (okZ G 3 rfl)
 ·cases h;exact .inl (okZ G 4 rfl)
 ·cases h;exact .inl (okZ G 5 rfl)
 ·cases h;exact .inl (okZ G 6 rfl)
 ·cases h;exact .inl (okZ G 7 rfl)
 ·cases h;exact .inl (okZ G 8 rfl)
 ·cases h;exact .inl (okZ G 9 rfl)
 ·cases h;exact .inl (okZ G 10 rfl)
 ·cases h;exact .inl (okZ G 11 rfl)
 ·cases h;exact .inl (okZ G 12 rfl)
 ·cases h;exact .inl (okZ G 13 rfl)
 ·cases h;exact .inl (okZ G 14 rfl)
 ·cases h;exact .inl (okZ G 15 rfl)
 ·cases h;exact .inl (okZ G 16 rfl)
 ·cases h;exact .inl (okZ G 17 rfl)
 ·cases h;exact .inl (okZ G 18 rfl)
 ·cases h;exact .inl (okZ G 19 rfl)
 ·cases h;exact .inl (okZ G 20 rfl)
 ·cases h;exact .inl (okZ G 21 rfl)
 ·cases h;exact .inl (okZ G 22 rfl)
 ·cases h;exact .inl (okZ G 23 rfl)
 ·cases h;exact .inl (okZ G 24 rfl)
 ·cases h;exact .inl (okZ G 25 rfl)
 ·cases h;exact .inl (okZ G 26 rfl)
 ·cases h;exact .inl (okZ G 27 rfl)
 ·cases h;exact .inl (okZ G 28 rfl)
 ·cases h;exact .inl (okZ G 29 rfl)
 ·cases h;exact .inl (okZ G 30 rfl)
 ·cases h;exact .inl (okZ G 31 rfl)
 ·cases h;exact .inl (okZ G 32 rfl)
 ·cases h;exact .inl (okZ G 33 rfl)
 ·cases h;exact .inl (okZ G 34 rfl)
 ·cases h;exact .inl (okZ G 35 rfl)
 ·cases h;exact .inl (okZ G 36 rfl)
 ·cases h;exact .inl (okZ G 37 rfl)
 ·cases h;exact .inl (okZ G 38 rfl)
 ·cases h;exact .inl (okZ G 39 rfl)
 ·cases h;exact .inl (okZ G 40 rfl)
 ·cases h;exact .inl (okZ G 41 rfl)
 ·cases h;exact .inl (okZ G 42 rfl)
 ·cases h;exact .inl (okZ G 43 rfl)
 ·cases h;exact .inl (okZ G 44 rfl)
 ·cases h;exact .inl (okZ G 45 rfl)
 ·cases h;exact .inl (okZ G 46 rfl)
 ·cases h;exact .inl (okZ G 47 rfl)
 ·cases h;exact .inl (okZ G 48 rfl)
 ·cases h;exact .inl (okZ G 49 rfl)
 ·cases h;exact .inl (okZ G 50 rfl)
 ·cases h;exact .inl (okZ G 51 rfl)
 ·cases h;exact .inl (okZ G 52 rfl)
 ·cases h;exact .inl (okZ G 53 rfl)
 ·cases h;exact .inl (okZ G 54 rfl)
 ·cases h;exact .inl (okZ G 55 rfl)
 ·cases h;exact .inl (okZ G 56 rfl)
 ·cases h;exact .inl (okZ G 57 rfl)
 ·cases h;exact .inl (okZ G 58 rfl)
 ·cases h;exact .inl (okZ G 59 rfl)
 ·cases h;exact .inl (okZ G 60 rfl)
 ·cases h;exact .inl (okZ G 61 rfl)
 ·cases h;exact .inl (okZ G 62 rfl)
 ·cases h;exact .inr (.inr (.inl ⟨by kernel_rfl,rfl,Zy9⟩))
 ·cases h;exact .inl (okZ G 63 rfl)
 ·cases h;exact .inl (okZ G 64 rfl)
 ·cases h;exact .inl (okZ G 65 rfl)
 ·cases h;exact .inl (okZ G 66 rfl)
 ·cases h;exact .inl (okZ G 67 rfl)
 ·cases h;exact .inl (okZ G 68 rfl)
 ·cases h;exact .inl (okZ G 69 rfl)
 ·cases h;exact .inl (okZ G 70 rfl)
 ·cases h;exact .inl (okZ G 71 rfl)
 ·cases h;exact .inl (okZ G 72 rfl)
 ·cases h;exact .inl (okZ G 73 rfl)
 ·cases h;exact .inl (okZ G 74 rfl)
 ·cases h;exact .inl (okZ G 75 rfl)
 ·cases h;exact .inl (okZ G 76 rfl)
 ·cases h;exact .inl (okZ G 77 rfl)
 ·cases h;exact .inl (okZ G 78 rfl)
 ·cases h;exact .inl (okZ G 79 rfl)
 ·cases h;exact .inl (okZ G 80 rfl)
 ·cases h;exact .inl (okZ G 81 rfl)
 ·cases h;exact .inl (okZ G 82 rfl)
 ·cases h;exact .inl (okZ G 83 rfl)
 ·cases h;exact .inl (okZ G 84 rfl)
 ·cases h;exact .inl (okZ G 85 rfl)
 ·cases h;exact .inl (okZ G 86 rfl)
 ·cases h;exact .inl (okZ G 87 rfl)
 ·cases h;exact .inl (okZ G 88 rfl)
 ·cases h;exact .inl (okZ G 89 rfl)
 ·cases h;exact .inl (okZ G 90 rfl)
 ·cases h;exact .inl (okZ G 91 rfl)
 ·cases h;exact .inl (okZ G 92 rfl)
 ·cases h;exact .inl (okZ G 93 rfl)
 ·cases h;exact .inl (okZ G 94 rfl)
 ·cases h;exact .inl (okZ G 95 rfl)
 ·cases h;exact .inl (okZ G 96 rfl)
 ·cases h;exact .inl (okZ G 97 rfl)
 ·cases h;exact .inl (okZ G 98 rfl)
 ·cases h;exact .inl (okZ G 99 rfl)
 ·cases h;exact .inl (okZ G 100 rfl)
 ·cases h;exact .inl (okZ G 101 rfl)
 ·cases h;exact .inl (okZ G 102 rfl)
 ·cases h;exact .inl (okZ G 103 rfl)
 ·cases h;exact .inl (okZ G 104 rfl)
 ·cases h;exact .inl (okZ G 105 rfl)
 ·cases h;exact .inl (okZ G 106 rfl)
 ·cases h;exact .inl (okZ G 107 rfl)
 ·cases h;exact .inl (okZ G 108 rfl)
 ·cases h;exact .inl (okZ G 109 rfl)
 ·cases h;exact .inr (.inr (.inr ⟨by kernel_rfl,rfl,ZwM hG⟩))
 ·cases h;exact .inl (okZ G 110 rfl)
 ·cases h;exact .inl (okZ G 111 rfl)
 ·cases h;exact .inl (okZ G 112 rfl)
 ·cases h;exact .inl (okZ G 113 rfl)
 ·cases h;exact .inl (okZ G 114 rfl)
 ·cases h;exact .inl (okZ G 115 rfl)
 ·cases h;exact .inl (okZ G 116 rfl)
 ·cases h;exact .inl (okZ G 117 rfl)
 ·cases h;exact .inl (okZ G 118 rfl)
 ·cases h;exact .inl (okZ G 119 rfl)
 ·cases h;exact .inl (okZ G 120 rfl)
 ·cases h;exact .inl (okZ G 121 rfl)
 ·cases h;exact .inl (okZ G 122 rfl)
 ·cases h
theorem ZzT (G:ZQ) (hG:Zmr G):∀f fn,ctx.code f=some fn->Zpv Tryz.prog G (fun N=>Zig Tryz.prog G N) f fn=true∨ZkJ Tryz.prog G f fn:=Zx9 G hG
theorem ZzY (G:ZQ) (hG:Zmr G):Zdv Tryz.prog G (evW ctx):=Zt1 (ZzT G hG)
end Go.Proofs.YtgcfmiajkbbmeaaGreat
namespace Go.Proofs.YtgcfmiajkbbmeaaGreatE
open Go
open Go.IntKind (u64 i64 u32 i32 u8)
inductive Lf where
 | bool | int (k:IntKind) | str | sl (ag:Bool) (els:List Lf)
mutual
def ZwN:Lf->D->Prop
 | .bool,x=>∃b,x = .bool b
 | .int k,x=>∃n,x = .int k n/\(Lit.int k n).wf=true
 | .str,x=>∃s,x = .str s/\s.size<=maxLen
 | .sl ag els,x=>∃xs,x = .list true xs/\xs.length<=maxLen/\∀y∈xs,y.isAgg=ag/\ZdL els y.cells
def ZdL:List Lf->List D->Prop
 | [],ds=>ds=[]
 | l :: ls,ds=>∃d r,ds=d :: r/\ZwN l d/\ZdL ls r
end
def Zhi (P:Program) (g:TypeId->Option (List Lf×Bool)):Nat->List Field->Option (List Lf)
 | _,[]=>some []
 | off,f :: fs=>match g f.type with
  | some (l,_)=>(match Zhi P g (off+l.length) fs with
   | some r=>bif Nat.beq f.offset off&&Nat.beq (P.cellsOf f.type) l.length then some (l++r) else none
   | none=>none)
  | none=>none
def lfs (P:Program):Nat->TypeId->Option (List Lf×Bool)
 | 0,_=>none
 | n+1,t=>match P.underlying t with
  | some .bool=>some ([.bool],false)
  | some (.int k)=>some ([.int k],false)
  | some .string=>some ([.str],false)
  | some (.slice e)=>(match lfs P n e with | some (l,ag)=>bif Nat.beq (P.cellsOf e) l.length&&Nat.blt 0 l.length then some ([.sl ag l],false) else none | none=>none)
  | some (.struct fs)=>(match Zhi P (lfs P n) 0 fs.toList with | some l=>bif Nat.beq (P.cellsOf t) l.length then some (l,true) else none | none=>none)
  | _=>none
mutual
theorem ZqA:∀(l:Lf) (x:D),ZwN l x->x.esc=true/\x.isAgg=false/\x.cells=[x]
 | .bool,x,h=>by obtain⟨b,rfl⟩:=h;exact⟨rfl,rfl,rfl⟩
 | .int k,x,h=>by obtain⟨n,rfl,_⟩:=h;exact⟨rfl,rfl,rfl⟩
 | .str,x,h=>by obtain⟨s,rfl,_⟩:=h;exact⟨rfl,rfl,rfl⟩
 | .sl ag els,x,h=>by obtain⟨xs,rfl,_⟩:=h;exact⟨rfl,rfl,rfl⟩
theorem ZoH:∀(ls:List Lf) (ds:List D),ZdL ls ds->D.escs ds=true/\ds.length=ls.length
 | [],ds,h=>by obtain rfl:=h;exact⟨rfl,rfl⟩
 | l :: ls,ds,h=>by
  obtain⟨d,r,rfl,h1,h2⟩:=h
  obtain⟨e1,e2,_⟩:=ZqA l d h1
  obtain⟨e3,e4⟩:=ZoH ls r h2
  exact⟨by simp[D.escs,e1,e2,e3],by simp[e4]⟩
end
theorem Zot:∀(l r:List Lf) (ds es:List D),ZdL l ds->ZdL r es->ZdL (l++r) (ds++es)
 | [],r,ds,es,h,k=>by obtain rfl:=h;exact k
 | a :: l,r,ds,es,h,k=>by
  obtain⟨d,ds',rfl,h1,h2⟩:=h
  exact⟨d,ds'++es,rfl,h1,Zot l r ds' es h2 k⟩
section
variable {H:Type} {enc:TypeId×Value->H} {P:Program} {W:World} {sp:Nat->Bool} {held:Bool}
abbrev All:Nat->Prop:=fun _=>True
theorem Zox:∀(ds es:List D) (us vs:List Value),ZR All All All W ds us->ZR All All All W es vs->ZR All All All W (ds++es) (us++vs)
 | [],es,us,vs,h,k=>by obtain rfl:=h;exact k
 | x :: ds,es,us,vs,h,k=>by
  obtain⟨u,us',rfl,h1,h2⟩:=h
  exact⟨u,us'++vs,rfl,h1,Zox ds es us' vs h2 k⟩
theorem Zqa {a:Addr}{n:Nat}{cs:List Value} (h:W.cells? 0 a n=some cs):cs.length=n/\∀k,k<n->W.cell? (a.add k)=cs[k]?:=by
 unfold World.cells? at h
 rw[if_pos (Nat.zero_le _)] at h
 exact⟨by simpa using mapM_some_length h,fun k hk=>mapM_some_get h k k (by simp[hk])⟩
theorem Zn8 {g:TypeId->Option (List Lf×Bool)}{m:Nat}{cs:List Value}
  (hg:∀t l ag cs x,g t=some (l,ag)->DataW.trod enc P W 0 sp held m t cs=some x->∃ds,ZR All All All W ds cs/\ZdL l ds) :
  ∀(fs:List Field) (off:Nat) (l:List Lf) (xs:List (DataW H×List MemPlace)),Zhi P g off fs=some l->xs.length=fs.length->off+l.length<=cs.length ->
   (∀(i:Nat) f,fs[i]? = some f->DataW.trod enc P W 0 sp held m f.type ((cs.drop f.offset).take (P.cellsOf f.type))=xs[i]?)->∃ds,ZR All All All W ds ((cs.drop off).take l.length)/\ZdL l ds
 | [],off,l,xs,h,_,_,_=>by
  simp only[Zhi,Option.some.injEq] at h
  subst h
  exact⟨[],by simp[ZR],rfl⟩
 | f :: fs,off,l,xs,h,hl,hle,hx=>by
  simp only[Zhi] at h
  cases hgf:g f.type with
  | none=>rw[hgf] at h;cases h
  | some q=>
   obtain⟨l1,ag⟩:=q
   rw[hgf] at h
   dsimp only at h
   cases hr:Zhi P g (off+l1.length) fs with
   | none=>rw[hr] at h;cases h
   | some r=>
    rw[hr] at h
    dsimp only at h
    cases hc:(Nat.beq f.offset off&&Nat.beq (P.cellsOf f.type) l1.length) with
    | false=>rw[hc] at h;cases h
    | true=>
     rw[hc] at h
     simp only[cond_true,Option.some.injEq] at h
     subst h
     simp only[Bool.and_eq_true] at hc
     have h1:=Nat.eq_of_beq_eq_true hc.1
     have h2:=Nat.eq_of_beq_eq_true hc.2
     rw[List.length_append] at hle
     cases xs with
     | nil=>simp at hl
     | cons x xs=>
      have hx0:=hx 0 f rfl
      rw[h1,h2] at hx0
      simp only[List.getElem?_cons_zero] at hx0
      obtain⟨d1,e1,e2⟩:=hg f.type l1 ag _ x hgf hx0
      obtain⟨d2,e3,e4⟩:=Zn8 (cs:=cs) hg fs (off+l1.length) r xs hr (by simpa using hl) (by omega) (fun i f' hf'=>by simpa using hx (i+1) f' (by simpa using hf'))
      refine⟨d1++d2,?_,Zot _ _ _ _ e2 e4⟩
      have hspl:(cs.drop off).take (l1++r).length=(cs.drop off).take l1.length++(cs.drop (off+l1.length)).take r.length:=by
       rw[List.length_append,List.take_add,List.drop_drop]
      rw[hspl]
      exact Zox _ _ _ _ e1 e3
theorem Znf:∀(n:Nat) (t:TypeId) (l:List Lf) (ag:Bool),lfs P n t=some (l,ag)->∀(fuel:Nat) (cs:List Value) (x:DataW H×List MemPlace),DataW.trod enc P W 0 sp held fuel t cs=some x ->
  ∃ds,ZR All All All W ds cs/\ZdL l ds/\(ag=false->∃u y,cs=[u]/\ds=[y]/\u.cells = #[u]/\y.isAgg=false)
 | 0,t,l,ag,h,fuel,cs,x,hx=>by cases h
 | n+1,t,l,ag,h,fuel,cs,x,hx=>by
  simp only[lfs] at h
  split at h
  ·rename_i ht
   cases h
   obtain⟨b,rfl,_⟩:=DataW.trod_bool ht hx
   exact⟨[.bool b],⟨_,_,rfl,rfl,rfl⟩,⟨_,_,rfl,⟨b,rfl⟩,rfl⟩,fun _=>⟨_,_,rfl,rfl,rfl,rfl⟩⟩
  ·rename_i k ht
   cases h
   obtain⟨m,rfl,_,hw⟩:=DataW.trod_int ht hx
   exact⟨[.int k m],⟨_,_,rfl,rfl,rfl⟩,⟨_,_,rfl,⟨m,rfl,hw⟩,rfl⟩,fun _=>⟨_,_,rfl,rfl,rfl,rfl⟩⟩
  ·rename_i ht
   cases h
   obtain⟨s,rfl,_,hs⟩:=DataW.trod_string ht hx
   exact⟨[.str s],⟨_,_,rfl,rfl,rfl⟩,⟨_,_,rfl,⟨s,rfl,hs⟩,rfl⟩,fun _=>⟨_,_,rfl,rfl,rfl,rfl⟩⟩
  ·rename_i e ht
   cases he:lfs P n e with
   | none=>rw[he] at h;cases h
   | some q=>
    obtain⟨le,age⟩:=q
    rw[he] at h
    dsimp only at h
    cases hc:(Nat.beq (P.cellsOf e) le.length&&Nat.blt 0 le.length) with
    | false=>rw[hc] at h;cases h
    | true=>
     rw[hc] at h
     simp only[cond_true,Option.some.injEq,Prod.mk.injEq] at h
     obtain⟨rfl,rfl⟩:=h
     simp only[Bool.and_eq_true] at hc
     have hsz:=Nat.eq_of_beq_eq_true hc.1
     have hpos:0<le.length:=by have:=hc.2;simp[Nat.blt] at this;omega
     rcases Go.Deep.open_slice ht hx with⟨rfl,_⟩ | ⟨a,len,cap,m,fu,Dd,Pl,rfl,_,hlc,hcap,hm,_,hel⟩
     ·exact⟨[.list true []],⟨_,_,rfl,⟨_,0,0,rfl,rfl,Nat.le_refl _,by simp,by simp⟩,rfl⟩,⟨_,_,rfl,⟨[],rfl,by simp,by simp⟩,rfl⟩,fun _=>⟨_,_,rfl,rfl,rfl,rfl⟩⟩
     ·rw[hsz] at hel
      have hlm:len<=m:=by rw[hm];split<;>omega
      have each:∀i,i<len->∃y u,ZV All All All W y u/\y.isAgg=age/\ZdL le y.cells/\u.cells.size=le.length/\(∀k v,u.cells[k]? = some v->W.cell? ((a.add (i*le.length)).add k)=some v)/\y.esc=true:=fun i hi=>by
       obtain⟨cs',h1,h2⟩:=hel i (by omega)
       obtain⟨c1,c2⟩:=Zqa h1
       obtain⟨ds,d1,d2,d3⟩:=Znf n e le age he fu cs' _ h2
       obtain⟨s1,s2⟩:=ZoH _ _ d2
       cases age with
       | true=>
        refine⟨.agg ds,.agg cs'.toArray,⟨cs',rfl,d1⟩,rfl,d2,by simpa [Value.cells] using c1,fun k v hk=>?_,s1⟩
        have hk':cs'[k]? = some v:=by simpa [Value.cells] using hk
        rw[c2 k (by rw[<- c1];exact(List.getElem?_eq_some_iff.1 hk').1)];exact hk'
       | false=>
        obtain⟨u,y,rfl,rfl,e1,e2⟩:=d3 rfl
        obtain⟨u',us',f1,f2,_⟩:=d1
        cases f1
        have hy:y.cells=[y]:=by
         cases y<;>first | rfl | (simp[D.isAgg] at e2)
        have hesc:y.esc=true:=by
         match le,d2,hpos with
         | l0 :: ls,d2,_=>
          obtain⟨d,r,g1,g2,_⟩:=d2
          cases g1
          exact(ZqA l0 y g2).1
        refine⟨y,u,f2,e2,by rw[hy];exact d2,by rw[e1,<- c1];rfl,fun k v hk=>?_,hesc⟩
        rw[e1] at hk
        have hk0:k=0:=by
         have:=(Array.getElem?_eq_some_iff.1 hk).1;simp at this;exact this
        subst hk0
        simp at hk;subst hk
        rw[c2 0 (by omega)];rfl
      have all:∀j,j<=len->∃ys:List D,ys.length=j/\(∀y∈ys,y.isAgg=age/\ZdL le y.cells/\y.esc=true)/\∀(i:Nat) y,ys[i]? = some y->∃u,ZV All All All W y u/\u.cells.size=le.length/\∀k v,u.cells[k]? = some v->W.cell? ((a.add (i*le.length)).add k)=some v:=by
       intro j
       induction j with
       | zero=>intro _;exact⟨[],rfl,by simp,by simp⟩
       | succ j ih=>
        intro hj
        obtain⟨ys,y1,y2,y3⟩:=ih (by omega)
        obtain⟨y,u,z1,z2,z3,z4,z5,z6⟩:=each j (by omega)
        refine⟨ys++[y],by simp[y1],fun z hz=>?_,fun i z hz=>?_⟩
        ·rcases List.mem_append.1 hz with hz | hz
         ·exact y2 z hz
         ·simp at hz;subst hz;exact⟨z2,z3,z6⟩
        ·by_cases hi:i<ys.length
         ·rw[List.getElem?_append_left hi] at hz;exact y3 i z hz
         ·rw[List.getElem?_append_right (by omega)] at hz
          have hij:i-ys.length=0:=by
           have:=(List.getElem?_eq_some_iff.1 hz).1;simp at this;omega
          rw[hij] at hz
          simp at hz;subst hz
          have:i=j:=by omega
          subst this
          exact⟨u,z1,z4,z5⟩
      obtain⟨ys,y1,y2,y3⟩:=all len (Nat.le_refl _)
      refine⟨[.list true ys],⟨_,_,rfl,⟨_,len,cap,rfl,y1.symm,hlc,fun z hz=>(y2 z hz).2.2,fun hne=>?_⟩,rfl⟩,⟨_,_,rfl,⟨ys,rfl,by omega,fun z hz=>⟨(y2 z hz).1,(y2 z hz).2.1⟩⟩,rfl⟩,fun _=>⟨_,_,rfl,rfl,rfl,rfl⟩⟩
      have hlen:0<len:=by
       rw[<- y1];exact List.length_pos_iff.2 hne
      obtain⟨cs0,h1,_⟩:=hel 0 (by omega)
      obtain⟨c1,c2⟩:=Zqa h1
      have c3:=c2 0 hpos
      have hcell:∃v,W.cell? a=some v:=by
       refine⟨cs0[0]'(by omega),?_⟩
       have e0:(a.add (0*le.length)).add 0=a:=by simp[Addr.add]
       rw[e0] at c3
       rw[c3];exact List.getElem?_eq_getElem (by omega)
      obtain⟨v,hv⟩:=hcell
      have hspot:a.spot=none/\a.block<W.heap.size:=by
       unfold World.cell? at hv
       split at hv
       ·rename_i hb
        cases hsx:a.spot with
        | none=>exact⟨rfl,(Array.getElem?_eq_some_iff.1 hb).1⟩
        | some z=>rw[hsx] at hv;simp at hv
       ·cases hv
      obtain⟨b,off,spot⟩:=a
      obtain⟨hs1,hs2⟩:=hspot
      simp only at hs1 hs2
      subst hs1
      refine⟨b,off,le.length,rfl,trivial,hs2,ZgS ys off fun j y hj=>?_⟩
      obtain⟨u,u1,u2,u3⟩:=y3 j y hj
      refine⟨u,u1,u2,fun k v hk=>?_⟩
      rw[<- u3 k v hk]
      congr 1
      unfold Addr.add
      by_cases hj0:j*le.length=0
      ·by_cases hk0:k=0<;>simp[hj0,hk0]
      ·by_cases hk0:k=0<;>simp[hj0,hk0]
  ·rename_i fs ht
   cases hf:Zhi P (lfs P n) 0 fs.toList with
   | none=>rw[hf] at h;cases h
   | some l'=>
    rw[hf] at h
    dsimp only at h
    cases hc:Nat.beq (P.cellsOf t) l'.length with
    | false=>rw[hc] at h;cases h
    | true=>
     rw[hc] at h
     simp only[cond_true,Option.some.injEq,Prod.mk.injEq] at h
     obtain⟨rfl,rfl⟩:=h
     have hcl:=Nat.eq_of_beq_eq_true hc
     obtain⟨xs,m,_,_,hlen,hxl,hxs⟩:=DataW.trod_struct ht hx
     have hlen':cs.length=l'.length:=hlen.trans hcl
     obtain⟨ds,e1,e2⟩:=Zn8 (m:=m) (cs:=cs) (g:=lfs P n) (fun t l ag cs x hg hx=>by
      obtain⟨ds,d1,d2,_⟩:=Znf n t l ag hg m cs x hx
      exact⟨ds,d1,d2⟩) fs.toList 0 l' xs hf (by simpa using hxl) (by omega) (fun i f hf'=>hxs i f (by simpa using hf'))
     refine⟨ds,?_,e2,fun h=>by cases h⟩
     have:(cs.drop 0).take l'.length=cs:=by rw[List.drop_zero,List.take_of_length_le (by omega)]
     rw[this] at e1;exact e1
  ·cases h
def ZnQ (ag:Bool) (ds:List D):D:=match ag,ds with | true,ds=>.agg ds | false,d :: _=>d | false,[]=>.nilp
theorem Zrf {n:Nat}{t:TypeId}{l:List Lf}{ag:Bool} (h:lfs P n t=some (l,ag)) {base:Nat}{v:Value}{d:DataW H}{ps:List MemPlace} (hv:Value.okWide P W .any base t v) (hx:DataW.Trod enc P W 0 sp held t v d ps) :
  ∃ds,ZdL l ds/\ZV All All All W (ZnQ ag ds) v:=by
 obtain⟨fuel,hf⟩:=hx
 obtain⟨ds,d1,d2,d3⟩:=Znf n t l ag h fuel _ _ hf
 refine⟨ds,d2,?_⟩
 have one:ag=false->v.cells = #[v]->ZV All All All W (ZnQ ag ds) v:=fun hag hc=>by
  subst hag
  obtain⟨u,y,e1,rfl,_,_⟩:=d3 rfl
  rw[hc] at e1
  cases e1
  obtain⟨u',us',f1,f2,_⟩:=d1
  rw[hc] at f1
  cases f1
  exact f2
 cases n with
 | zero=>cases h
 | succ n=>
  simp only[lfs] at h
  split at h
  ·rename_i ht
   cases h
   obtain⟨b,rfl⟩:=Go.WideShapes.okWide_bool ht hv
   exact one rfl rfl
  ·rename_i k ht
   cases h
   obtain⟨b,rfl⟩:=Go.WideShapes.okWide_int ht hv
   exact one rfl rfl
  ·rename_i ht
   cases h
   obtain⟨b,rfl⟩:=Go.WideShapes.okWide_string ht hv
   exact one rfl rfl
  ·rename_i e ht
   obtain⟨a,len,cap,rfl⟩:=Go.WideShapes.okWide_slice ht hv
   split at h
   ·rename_i le age hq
    cases hc:(Nat.beq (P.cellsOf e) le.length&&Nat.blt 0 le.length) with
    | false=>rw[hc] at h;cases h
    | true=>rw[hc] at h;cases h;exact one rfl rfl
   ·cases h
  ·rename_i fs ht
   obtain⟨cs,rfl,_⟩:=Go.WideShapes.okWide_struct ht hv
   split at h
   ·rename_i q hq
    cases hc:Nat.beq (P.cellsOf t) q.length with
    | false=>rw[hc] at h;cases h
    | true=>
     rw[hc] at h
     cases h
     exact⟨cs.toList,by simp,by simpa [Value.cells] using d1⟩
   ·cases h
  ·cases h
end
end Go.Proofs.YtgcfmiajkbbmeaaGreatE
namespace Go.Proofs.YtgcfmiajkbbmeaaGreatE
open Go
open Go.IntKind (u64 i64 u32 i32 u8)
def R0:RP:={ B1:=fun _=>False,B0:=fun _=>False,M:=fun _=>none,H:=[] }
section
variable {P:Program} {G:ZQ} {Γ:Ctx} {W:World}
theorem Zhz (c:Nat):¬R0.live c:=by
 rintro ⟨i,h,_⟩
 simp[R0,ZE,nth] at h
theorem Zy5:R0.OK W where
 b01:=fun c h=>h.elim
 al:=fun i blk h=>by simp[R0] at h
 inj:=fun i j c h=>by simp[R0,ZE,nth] at h
 lt:=fun i c h=>by cases h
 blk:=fun i m blk h=>by simp[R0] at h
 nb:=fun i c h=>by simp[R0,ZE,nth] at h
 bl:=fun c h=>h.elim
theorem Zx7 {x:D}{u:Value} (h:ZV All All All W x u):R0.den W x u:=
 ZV.change _ _ _ _ (fun b _ _=>⟨Zhz b,fun h=>h⟩) (fun b _ _=>⟨Zhz b,fun h=>h⟩) (fun b _ _=>Zhz b) (fun _ _ _=>rfl) (Nat.le_refl _) (fun _ _=>trivial) (fun _ _=>trivial) x u h
theorem Zww {xs:List D}{us:List Value} (h:ZR All All All W xs us):ZL R0 W (ZaU xs) us:=
 (Zbd xs us).2 (ZR.change _ _ _ _ (fun b _ _=>⟨Zhz b,fun h=>h⟩) (fun b _ _=>⟨Zhz b,fun h=>h⟩) (fun b _ _=>Zhz b) (fun _ _ _=>rfl) (Nat.le_refl _) (fun _ _=>trivial) (fun _ _=>trivial) xs us h)
theorem Zty (hs:Zdv P G (evW Γ)) (hg:GOK G R0 W) {f:Nat}{xs:List D}{us:List Value} (hd:ZR All All All W xs us) {H':Zc} (he:evW Γ f (ZaU xs) []=some (.d (.bool true),H')) :
  Calls P f us.toArray W fun e W'=>e = .returned (.bool true)/\Go.RowKit.Below W.heap.size W W':=by
 obtain⟨_,h⟩:=hs f (ZaU xs) [] _ _ he
 refine(h R0 W us Zy5 hg rfl (fun i _=>rfl) (Zww hd)).mono fun e W' ⟨u,h1,R',x,ok,hH,hv,_,_⟩=>?_
 have hu:u = .bool true:=hv
 subst hu
 exact⟨h1,⟨x.os,x.tape,x.output,x.grow,fun k hk=>x.same k hk (Zhz k)⟩⟩
end
end Go.Proofs.YtgcfmiajkbbmeaaGreatE
namespace Go.Proofs.YtgcfmiajkbbmeaaGreatE
open Go
open Go.IntKind (u64 i64 u32 i32 u8)
noncomputable def bnd {α β:Type} (x:Option α) (k:α->Option β):Option β:=@dite _ (∃a,x=some a) (Classical.propDecidable _) (fun h=>k (Classical.choose h)) fun _=>none
theorem ZcB {α β:Type} (x:Option α) (k:α->Option β):bnd x k=(match x with | some a=>k a | none=>none):=by
  unfold bnd
  cases x with
  | none=>exact dif_neg (fun⟨a,h⟩=>by cases h)
  | some a=>
    have h:∃b,some a=some b:=⟨a,rfl⟩
    rw[dif_pos h]
    have:=Classical.choose_spec h
    rw[<- Option.some.inj this]
theorem ZhK {α β:Type} (a:α) (k:α->Option β):bnd (some a) k=k a:=ZcB _ _
section
variable {β:Type}
def ZAZ:List Nat:=[0,1,2,3,4,5,6,7,8,9,10,11,12,13,14,15,16,17,18,19,20,21,22,23,24,25,26,27,28,29,30,31,32,33,34,35,36,37,38,39,40,41,42,43,44,45,46,47,48,49,50,51,52,53,54,55,56,57,58,59,60,61,62,63]
def fgo (n:Nat) (k:Nat->Option β):List Nat->Option β
  | []=>k n
  | a :: l=>match Nat.beq n a with | true=>k a | false=>fgo n k l
def Zbu (n:Nat) (k:Nat->Option β):Option β:=fgo n k ZAZ
def Zgi (v:V) (k:V->Option β):Option β:=
  match v with
  | .d x=>k (.d x) | .bad=>k .bad | .ptr b o=>Zbu b fun b=>Zbu o fun o=>k (.ptr b o) | .eptr b sz i j=>Zbu b fun b=>Zbu j fun j=>k (.eptr b sz i j)
  | .sl b sz=>Zbu b fun b=>k (.sl b sz) | .slp b sz o l=>Zbu b fun b=>k (.slp b sz o l) | .nilsl sz=>k (.nilsl sz)
  | .agg cs=>k (.agg cs) | .tup cs=>k (.tup cs) | .fn f cs=>k (.fn f cs) | .mp b=>Zbu b fun b=>k (.mp b)
def ZgY (l:List V) (k:List V->Option β):Option β:=
  match l with
  | []=>k []
  | v :: vs=>Zgi v fun v=>ZgY vs fun vs=>k (v :: vs)
def ZoV (v:V) (k:V->Option β):Option β:=
  match v with
  | .d x=>k (.d x) | .bad=>k .bad | .ptr b o=>Zgi (.ptr b o) k | .eptr b sz i j=>Zgi (.eptr b sz i j) k
  | .sl b sz=>Zgi (.sl b sz) k | .slp b sz o l=>Zgi (.slp b sz o l) k | .nilsl sz=>k (.nilsl sz)
  | .agg cs=>ZgY cs fun cs=>k (.agg cs) | .tup cs=>ZgY cs fun cs=>k (.tup cs) | .fn f cs=>ZgY cs fun cs=>k (.fn f cs) | .mp b=>Zgi (.mp b) k
def ZfW (l:List V) (k:List V->Option β):Option β:=
  match l with
  | []=>k []
  | v :: vs=>ZoV v fun v=>ZfW vs fun vs=>k (v :: vs)
def Zq2 (b:Blk) (k:Blk->Option β):Option β:=
  match b with
  | .dead=>k .dead | .cells cs=>ZfW cs fun cs=>k (.cells cs) | .arr sz xs=>k (.arr sz xs) | .mp es=>k (.mp es)
def ZhV (H:Zc) (k:Zc->Option β):Option β:=
  match H with
  | []=>k []
  | b :: bs=>Zq2 b fun b=>ZhV bs fun bs=>k (b :: bs)
theorem Zvq (n:Nat) (k:Nat->Option β):∀(l:List Nat),fgo n k l=k n
  | []=>rfl
  | a :: l=>by
    unfold fgo
    cases h:Nat.beq n a with
    | true=>rw[Nat.eq_of_beq_eq_true h]
    | false=>exact Zvq n k l
theorem ZbL (n:Nat) (k:Nat->Option β):Zbu n k=k n:=Zvq n k _
theorem Zmf (v:V) (k:V->Option β):Zgi v k=k v:=by cases v<;>simp[Zgi,ZbL]
theorem Zll:∀(l:List V) (k:List V->Option β),ZgY l k=k l
  | [],k=>rfl
  | v :: vs,k=>by unfold ZgY;rw[Zmf,Zll vs]
theorem ZoU (v:V) (k:V->Option β):ZoV v k=k v:=by cases v<;>simp[ZoV,Zmf,Zll]
theorem ZfB:∀(l:List V) (k:List V->Option β),ZfW l k=k l
  | [],k=>rfl
  | v :: vs,k=>by unfold ZfW;rw[ZoU,ZfB vs]
theorem Ztu (b:Blk) (k:Blk->Option β):Zq2 b k=k b:=by cases b<;>simp[Zq2,ZfB]
theorem ZgV:∀(l:Zc) (k:Zc->Option β),ZhV l k=k l
  | [],k=>rfl
  | v :: vs,k=>by unfold ZhV;rw[Ztu,ZgV vs]
def Zhg (l:List Nat) (k:List Nat->Option β):Option β:=
  match l with
  | []=>k []
  | a :: l=>Zbu a fun a=>Zhg l fun l=>k (a :: l)
theorem Zhc:∀(l:List Nat) (k:List Nat->Option β),Zhg l k=k l
  | [],k=>rfl
  | a :: l,k=>by unfold Zhg;rw[ZbL,Zhc l]
def ZiH (H:Zc) (l:List Nat) (bs:List Nat) (k:List Nat->Option β):Option β:=
  match bs with
  | []=>k l
  | b :: bs=>(match Ze3 l b || !(ZE H b) with
    | true=>ZiH H l bs k
    | false=>Zhg (l++[b]) fun l=>ZiH H l bs k)
theorem Zhe (H:Zc):∀(bs l:List Nat) (k:List Nat->Option β),ZiH H l bs k=k (Zdw H l bs)
  | [],l,k=>rfl
  | b :: bs,l,k=>by
    unfold ZiH Zdw
    cases h:(Ze3 l b || !(ZE H b)) with
    | true=>exact Zhe H bs l k
    | false=>simp only[Zhc,cond_false];exact Zhe H bs _ k
def Zpk (H:Zc) (n i:Nat) (l:List Nat) (k:List Nat->Option β):Option β:=
  match n with
  | 0=>k l
  | n+1=>(match nth l i with
    | some b=>Zhg (Zss H b) fun bs=>ZiH H l bs fun l=>Zbu (i+1) fun i=>Zpk H n i l k
    | none=>k l)
theorem Zoi (H:Zc):∀(n i:Nat) (l:List Nat) (k:List Nat->Option β),Zpk H n i l k=k (Zim H n i l)
  | 0,i,l,k=>rfl
  | n+1,i,l,k=>by
    unfold Zpk Zim
    cases h:nth l i with
    | none=>rfl
    | some b=>simp only[Zhc,ZbL,Zhe];exact Zoi H n (i+1) _ k
def ZcF (m:Nat) (vs:List V) (H:Zc) (k:List Nat->List V->Zc->Option β):Option β:=
  ZfW vs fun vs=>Zhg (ZjK m) fun u=>Zhg (Zfr vs) fun r=>ZiH H u r fun l=>Zpk H (H.length+1) 0 l fun L=>
    (match ZjE L&&Znz H.length L with
    | true=>ZfW (Zfw (fun b=>idx L b 0) vs) fun vs=>ZhV (pick H (fun b=>idx L b 0) L) fun H=>k L vs H
    | false=>none)
theorem Zbm (m:Nat) (vs:List V) (H:Zc) (k:List Nat->List V->Zc->Option β):ZcF m vs H k=(match extract m vs H with | some (L,vs,H)=>k L vs H | none=>none):=by
  unfold ZcF extract ZjY
  simp only[ZfB,Zhc,Zhe,Zoi,ZgV]
  cases (ZjE (Zim H (H.length+1) 0 (Zdw H (ZjK m) (Zfr vs)))&&Znz H.length (Zim H (H.length+1) 0 (Zdw H (ZjK m) (Zfr vs))))<;>rfl
def Zi6 (n:Nat) (vs:List V) (k:List V->List Blk->Option β):Option β:=
  match vs with
  | []=>k [] []
  | v :: vs=>(match v with
    | .nilsl sz=>(match Nat.blt 0 sz with
      | true=>Zbu (n+1) fun n1=>Zi6 n1 vs fun vs bs=>k (.sl n sz :: vs) (.arr sz [] :: bs)
      | false=>Zi6 n vs fun vs bs=>k (.nilsl sz :: vs) bs)
    | v=>Zi6 n vs fun vs bs=>k (v :: vs) bs)
theorem Zgx:∀(vs:List V) (n:Nat) (k:List V->List Blk->Option β),Zi6 n vs k=k (Zal n vs).1 (Zal n vs).2
  | [],n,k=>rfl
  | v :: vs,n,k=>by
    unfold Zi6
    split
    · rename_i sz
      simp only[Zal]
      cases h:Nat.blt 0 sz with
      | true=>simp only[ZbL,cond_true];exact Zgx vs (n+1) _
      | false=>exact Zgx vs n _
    · rename_i h
      rw[Zgx vs n]
      cases v<;>first | rfl | exact absurd rfl (h _)
def Zki (n:Nat) (H:Zc) (k:Zc->List Blk->Option β):Option β:=
  match H with
  | []=>k [] []
  | b :: H=>(match b with
    | .cells cs=>Zi6 n cs fun cs bs=>Zbu (n+bs.length) fun n1=>Zki n1 H fun H q=>k (.cells cs :: H) (bs++q)
    | b=>Zki n H fun H q=>k (b :: H) q)
theorem Zje:∀(H:Zc) (n:Nat) (k:Zc->List Blk->Option β),Zki n H k=k (ZaT n H).1 (ZaT n H).2
  | [],n,k=>rfl
  | b :: H,n,k=>by
    unfold Zki
    cases b<;>first | exact Zje H n _ | skip
    rename_i cs
    simp only[Zgx,ZbL,ZaT]
    exact Zje H _ _
def Zlb (m:Nat) (vs:List V) (H:Zc) (k:List V->Zc->Option β):Option β:=
  ZcF m vs H fun _ vs1 H1=>Zi6 H1.length vs1 fun vs2 bs=>Zbu (H1.length+bs.length) fun n=>Zki n H1 fun H2 q=>ZhV (H2++(bs++q)) fun H2=>ZcF m vs2 H2 fun _ vs3 H3=>k vs3 H3
theorem Zql (m:Nat) (vs:List V) (H:Zc) (k:List V->Zc->Option β):Zlb m vs H k=(match ZlA m vs H with | some (vs,H)=>k vs H | none=>none):=by
  unfold Zlb ZlA
  rw[Zbm]
  cases h:extract m vs H with
  | none=>rfl
  | some p=>
    obtain⟨L,vs1,H1⟩:=p
    simp only[Zgx,ZbL,Zje,ZgV,Zbm]
    cases extract m (Zal H1.length vs1).1 ((ZaT (H1.length+(Zal H1.length vs1).2.length) H1).1++((Zal H1.length vs1).2++(ZaT (H1.length+(Zal H1.length vs1).2.length) H1).2))<;>rfl
noncomputable def br (c:Bool) (x y:Option β):Option β:=@ite _ (c=true) (Classical.propDecidable _) x y
theorem Zbx (c:Bool) (x y:Option β):br c x y=bif c then x else y:=by
  unfold br
  cases c with
  | true=>exact if_pos rfl
  | false=>exact if_neg (by simp)
def brL (c:Bool) (x y:Option β):Option β:=match c with | true=>x | false=>y
noncomputable def Zid (c:Bool) (k:V->Option β):Option β:=br c (k (.d (.bool true))) (k (.d (.bool false)))
theorem ZgG (c:Bool) (k:V->Option β):Zid c k=k (.d (.bool c)):=by
  unfold Zid
  rw[Zbx]
  cases c<;>rfl
noncomputable def Zol (v:V) (k:V->Option β):Option β:=match v with | .d (.bool c)=>Zid c k | v=>k v
theorem Zqx (v:V) (k:V->Option β):Zol v k=k v:=by
  unfold Zol
  split
  · exact ZgG _ _
  · rfl
noncomputable def ZsI (x:D) (k:V->Option β):Option β:=match x with | .bool c=>Zid c k | .tup ts=>k (.tup (ZaU ts)) | x=>k (.d x)
abbrev K3 (β:Type):=V->List (Nat×Blk)->List Blk->Option β
noncomputable def ZwK (op:BinOp) (x y:V) (k:V->Option β):Option β:=
  match op,x,y with
  | .quo,.d (.int i a),.d (.int j b)=>(match i==j with | true=>br (b==0) none (k (.d (.int i (i.wrap (a.tdiv b))))) | false=>none)
  | .rem,.d (.int i a),.d (.int j b)=>(match i==j with | true=>br (b==0) none (k (.d (.int i (a.tmod b)))) | false=>none)
  | .shl,.d (.int i a),.d (.int _ b)=>br (decide (b<0)) none (k (.d (.int i (i.wrap (a*2 ^ (min b.toNat i.bits))))))
  | .shr,.d (.int i a),.d (.int _ b)=>br (decide (b<0)) none (k (.d (.int i (a.fdiv (2 ^ (min b.toNat i.bits))))))
  | op,x,y=>match Zjy op x y with | some (.bool c)=>Zid c k | some r=>k (.d r) | none=>none
noncomputable def Zr7 (H:Zc) (n:Nat) (ag:Bool) (x:V) (k:V->Option β):Option β:=
  match x with
  | .eptr b sz i j=>(match nth H b with
    | some (.arr sz' xs)=>(match Nat.beq sz sz' with
      | true=>bnd (nth xs i) fun x=>(match Zcz n ag (ZaU (x.cells.drop j)) with | some v=>Zol v k | none=>none)
      | false=>none)
    | _=>none)
  | x=>match Zbv H n ag x with | some v=>Zol v k | none=>none
noncomputable def ZpB (H:Zc) (n:Nat) (x v:V) (k:K3 β):Option β:=
  match x with
  | .eptr b sz i j=>(match nth H b with
    | some (.arr sz' xs)=>(match Nat.beq sz sz' with
      | true=>bnd (nth xs i) fun x=>(match fr H 6 v with
        | some (y,ks)=>(match Ze3 ks b with
          | true=>none
          | false=>(match Nat.beq y.cells.length n&&Nat.ble (j+n) x.cells.length&&(V.d y).okb&&(x.isAgg || !y.isAgg) with
            | true=>bnd (some (ZbZ xs i (bif x.isAgg then .agg (ZH x.cells j y.cells) else y))) fun zs=>k .bad ((b,.arr sz zs) :: ks.map (fun j=>(j,.dead))) []
            | false=>none))
        | none=>none)
      | false=>none)
    | _=>none)
  | x=>match Zht H n x v with | some (a,b,c)=>k a b c | none=>none
noncomputable def Zo1 (nid:Nat) (H:Zc) (sz:Nat) (x y:V) (k:K3 β):Option β:=
  match elems H y with
  | none=>none
  | some ys=>
    br (Zgr sz ys 0) (match x with
    | .nilsl _=>br (Nat.ble ys.length lim) (bnd (some ys) fun zs=>k (.sl nid sz) [] [.arr sz zs]) none
    | .sl b sz'=>(match nth H b with
      | some (.arr sz'' xs)=>(match Nat.beq sz sz'&&Nat.beq sz sz'' with
        | true=>br (Nat.ble (xs.length+ys.length) lim) (bnd (some (xs++ys)) fun zs=>k (.sl nid sz) [(b,.dead)] [.arr sz zs]) none
        | false=>none)
      | _=>none)
    | .slp b sz' o len=>(match nth H b with
      | some (.arr sz'' xs)=>(match Nat.beq sz sz'&&Nat.beq sz sz'' with
        | true=>br (Nat.ble (o+len+ys.length) xs.length) (bnd (some (xs.take (o+len)++(ys++xs.drop (o+len+ys.length)))) fun zs=>bnd (some (len+ys.length)) fun n=>k (.slp b sz o n) [(b,.arr sz zs)] []) none
        | false=>none)
      | _=>none)
    | _=>none) none
noncomputable def ZjZ (H:Zc) (sz:Nat) (x y:V) (k:V->Option β):Option β:=
  match x with
  | .nilsl _=>(match elems H y with
    | some ys=>br (Zgr sz ys 0) (br (Nat.ble ys.length lim) (bnd (some ys) fun zs=>k (.d (.list true zs))) none) none
    | none=>none)
  | _=>none
noncomputable def ZmR (v:Option V) (dflt:Nat) (k:Nat->Option β):Option β:=
  match v with
  | none=>k dflt
  | some (.d (.int _ n))=>br (decide (0<=n)) (k n.toNat) none
  | _=>none
noncomputable def Zo7 (H:Zc) (sz:Nat) (x:V) (lo hi mx:Option V) (k:V->Option β):Option β:=
  match elems H x with
  | none=>none
  | some xs=>
    ZmR lo 0 fun l=>ZmR hi xs.length fun h=>
      br (Nat.ble l h&&Nat.ble h xs.length)
        (match mx with
        | none=>(match x with
          | .d (.list own _)=>br (Nat.beq l 0 || Zgr sz xs l) (bnd (some ((xs.drop l).take (h-l))) fun zs=>k (.d (.list own zs))) none
          | .sl b sz'=>(match Nat.beq sz sz' with | true=>bnd (some l) fun l'=>bnd (some (h-l)) fun n=>k (.slp b sz l' n) | false=>none)
          | .slp b sz' o _=>(match Nat.beq sz sz' with | true=>bnd (some (o+l)) fun l'=>bnd (some (h-l)) fun n=>k (.slp b sz l' n) | false=>none)
          | .nilsl _=>k (.nilsl sz)
          | _=>none)
        | some m=>ZmR (some m) 0 fun m=>br (Nat.beq m l&&Nat.beq m h) (k (.nilsl sz)) none)
        none
noncomputable def Zpd (H:Zc) (sz:Nat) (x i:V) (k:V->Option β):Option β:=
  match i with
  | .d (.int _ i)=>(match x with
    | .d (.list _ xs)=>bnd (ZG xs i) fun x=>(match Nat.beq x.cells.length sz&&(V.d x).okb with | true=>k (.d (.rptr x.cells)) | false=>none)
    | .sl b sz'=>(match nth H b with
      | some (.arr sz'' xs)=>(match Nat.beq sz sz'&&Nat.beq sz sz'' with | true=>bnd (ZG xs i) fun _=>k (.eptr b sz i.toNat 0) | false=>none)
      | _=>none)
    | .slp b sz' o len=>(match nth H b with
      | some (.arr sz'' xs)=>(match Nat.beq sz sz'&&Nat.beq sz sz'' with | true=>bnd (ZG ((xs.drop o).take len) i) fun _=>k (.eptr b sz (o+i.toNat) 0) | false=>none)
      | _=>none)
    | _=>none)
  | _=>none
noncomputable def ZoZ (len sz:Nat) (ag:Bool) (x i:V) (k:V->Option β):Option β:=
  match i with
  | .d (.int _ i)=>br (x.isAggV&&(decide (0<=i)&&decide (i<len))) (bnd (Zcz sz ag (x.cells.drop (i.toNat*sz))) k) none
  | _=>none
noncomputable def ZlN (H:Zc) (len sz:Nat) (x i:V) (k:V->Option β):Option β:=
  match i with
  | .d (.int _ i)=>br (decide (0<=i)&&decide (i<len)) (match Zhr H (i.toNat*sz) x with | some v=>k v | none=>none) none
  | _=>none
noncomputable def ZlX (x i:V) (k:V->Option β):Option β:=
  match x,i with
  | .d (.str s),.d (.int _ i)=>br (decide (0<=i)) (bnd s[i.toNat]? fun b=>k (.d (.int .u8 b.toNat))) none
  | _,_=>none
noncomputable def Zk5 (k:V->Option β) (r:V×Zc):Option β:=match fr r.2 6 r.1 with | some (x,_)=>ZsI x k | none=>none
noncomputable def Zk8 (Γ:Ctx) (cf:ZX) (nid:Nat) (H:Zc) (f:Nat) (args:List V) (k:K3 β):Option β:=
  match Γ.mode f with
  | 0=>(match fzs H args with
    | some l=>ZfW (ZaU l) fun l=>bnd (cf f l []) (Zk5 fun v=>k v [] [])
    | none=>none)
  | 1=>(match fzs H args with
    | some l=>ZfW (ZaU l) fun l=>bnd (cf f l []) fun r=>(match ZnD r.1&&ZiZ r.2 with | true=>k (ZjW (fun j=>some (nid+j)) r.1) [] (r.2.map (Ze9 (fun j=>some (nid+j)))) | false=>none)
    | none=>none)
  | _ => (ZcF 0 args H fun L args' H0 => bnd (cf f args' H0) fun r => (match ZiW r.1 && Zgv r.2 with
        | true=>k (ZjW (fun j=>match nth L j with | some b=>some b | none=>some (nid+(j-L.length))) r.1)
          (L.zip (r.2.map (Ze9 (fun j=>match nth L j with | some b=>some b | none=>some (nid+(j-L.length))))))
          ((r.2.drop L.length).map (Ze9 (fun j=>match nth L j with | some b=>some b | none=>some (nid+(j-L.length)))))
        | false=>none))
noncomputable def ZpE (H:Zc) (ks:List Bool) (m k v:V) (kk:K3 β):Option β:=
  match m,k,v with
  | .mp b,.d k,.d y=>(match nth H b with
    | some (.mp es)=>(match ZaN ks k&&Ze2 y with | true=>bnd (Zg5 es k y) fun l=>kk .bad [(b,.mp l)] [] | false=>none)
    | _=>none)
  | _,_,_=>none
noncomputable def ZpC (H:Zc) (ks:List Bool) (z:D) (m k:V) (kk:K3 β):Option β:=
  match m,k with
  | .mp b,.d k=>(match nth H b with
    | some (.mp es)=>(match ZaN ks k with | true=>bnd (ZwU es k z) fun y=>kk (.d y) [] [] | false=>none)
    | _=>none)
  | _,_=>none
noncomputable def Zue (H:Zc) (x:V) (k:K3 β):Option β:=bnd (Zov H x) fun q=>br (Nat.ble q.2.length lim) (k .bad [(q.1,.arr 1 ((sortI q.2).map fun n=>.int .i64 n))] []) none
noncomputable def opK (Γ:Ctx) (cf:ZX) (e:Env) (nid:Nat) (H:Zc) (o:O) (k:K3 β):Option β:=
  match o with
  | .mov x=>k (x.val e) [] []
  | .pick c a b=>(match c.val e with | .d (.bool t)=>brL t (k (a.val e) [] []) (k (b.val e) [] []) | _=>none)
  | .load n ag x=>Zr7 H n ag (x.val e) fun v=>k v [] []
  | .store n x v=>ZpB H n (x.val e) (v.val e) k
  | .storek n x v _=>ZpB H n (x.val e) (v.val e) k
  | .bin op x y=>ZwK op (x.val e) (y.val e) fun v=>k v [] []
  | .slice sz x lo hi mx=>Zo7 H sz (x.val e) (lo.map (·.val e)) (hi.map (·.val e)) (mx.map (·.val e)) fun v=>k v [] []
  | .iaddr sz x i=>Zpd H sz (x.val e) (i.val e) fun v=>k v [] []
  | .index len sz ag x i=>ZoZ len sz ag (x.val e) (i.val e) fun v=>k v [] []
  | .iaddrA len sz x i=>ZlN H len sz (x.val e) (i.val e) fun v=>k v [] []
  | .indexS x i=>ZlX (x.val e) (i.val e) fun v=>k v [] []
  | .append sz x y=>Zo1 nid H sz (x.val e) (y.val e) k
  | .appendD sz x y=>ZjZ H sz (x.val e) (y.val e) fun v=>k v [] []
  | .eqv ks neg x y=>(match x.val e,y.val e with
    | .d a,.d b=>(match ZaN ks a with | true=>(match eqD a b with | some r=>Zid (bif neg then !r else r) fun v=>k v [] [] | none=>none) | false=>none)
    | _,_=>none)
  | .un .not x=>(match x.val e with | .d (.bool b)=>brL b (k (.d (.bool false)) [] []) (k (.d (.bool true)) [] []) | _=>none)
  | .extract x i=>(match x.val e with
    | .tup vs=>(match nth vs i with | some (.d (.bool c))=>Zid c fun v=>k v [] [] | some v=>k v [] [] | none=>none)
    | .d (.tup vs)=>(match nth vs i with | some (.bool c)=>Zid c fun v=>k v [] [] | some v=>k (.d v) [] [] | none=>none)
    | _=>none)
  | .mkslice sz z n c=>(match n.val e,c.val e with
    | .d (.int _ n),.d (.int _ c)=>br (decide (0<=n)&&decide (n<=lim)&&decide (n==c))
        (bnd (some (List.replicate n.toNat (match z with | [x]=>x | z=>.agg z))) fun zs=>k (.sl nid sz) [] [.arr sz zs]) none
    | _,_=>none)
  | .len x=>(match elems H (x.val e) with | some xs=>bnd (some (xs.length:Int)) fun n=>k (.d (.int .i64 n)) [] [] | none=>none)
  | .call f args=>Zk8 Γ cf nid H f (ZcD e args) k
  | .callv x args=>(match ZhB (x.val e) with | some (f,caps)=>(match Zd7 Γ (x.val e) f caps with | true=>none | false=>Zk8 Γ cf nid H (ZiX f) (Zld f caps (ZcD e args)) k) | none=>none)
  | .invoke tab x args=>(match x.val e with
    | .d (.iface t y)=>(match Zif tab t with | some f=>Zk8 Γ cf nid H f (.d y :: ZcD e args) k | none=>none)
    | _=>none)
  | .callk f args _=>Zk8 Γ cf nid H f (ZcD e args) k
  | .spec id args=>(match H,ZhO (ZcD e args) with | [],some l=>bnd (Zi0 id l) fun r=>k (.d r) [] [] | _,_=>none)
  | .nilq x=>(match elems H (x.val e) with | some xs=>br (Nat.blt 0 xs.length) (k (.d (.bool false)) [] []) none | none=>none)
  | .sortI x=>Zue H (x.val e) k
  | .mapset ks m x v=>ZpE H ks (m.val e) (x.val e) (v.val e) k
  | .mapget ks z m x=>ZpC H ks z (m.val e) (x.val e) k
  | o=>match opE Γ cf e nid H o with | some (v,up,nw)=>Zol v fun v=>k v up nw | none=>none
def on3 (x:Res) (k:K3 β):Option β:=match x with | some (v,up,nw)=>k v up nw | none=>none
theorem Zkb (Γ:Ctx) (cf:ZX) (nid:Nat) (H:Zc) (f:Nat) (args:List V) (k:K3 β):Zk8 Γ cf nid H f args k=on3 (Zd5 Γ cf nid H f args) k:=by
  unfold Zk8 Zd5
  generalize Γ.mode f=m
  match m with
  | 0=>
    dsimp only
    simp only[ZcB]
    cases h1:fzs H args with
    | none=>rfl
    | some l=>
      simp only[ZfB]
      cases h2:cf f (ZaU l) [] with
      | none=>rfl
      | some r=>
        obtain⟨v,H1⟩:=r
        dsimp only[Zk5]
        cases h3:fr H1 6 v with
        | none=>rfl
        | some q => obtain ⟨x, ks⟩ := q; cases x <;> try rfl
                    exact ZgG _ (fun v=>k v [] [])
  | 1=>
    dsimp only
    simp only[ZcB]
    cases h1:fzs H args with
    | none=>rfl
    | some l=>
      simp only[ZfB]
      cases h2:cf f (ZaU l) [] with
      | none=>rfl
      | some r=>
        dsimp only
        cases h3:(ZnD r.1&&ZiZ r.2)<;>rfl
  | m+2=>
    dsimp only
    simp only[ZcB]
    rw[Zbm]
    cases h1:extract 0 args H with
    | none=>rfl
    | some q=>
      obtain⟨L,args',H0⟩:=q
      dsimp only
      cases h2:cf f args' H0 with
      | none=>rfl
      | some r=>
        dsimp only
        cases h3:(ZiW r.1&&Zgv r.2)<;>rfl
theorem Zwt (op:BinOp) (x y:V) (k:V->Option β):ZwK op x y k=(match Zjy op x y with | some r=>k (.d r) | none=>none):=by
  unfold ZwK
  split
  · rename_i i a j b
    simp only[Zjy,ZwS]
    cases h:(i==j)<;>simp only[cond_true,cond_false,Zbx]
    cases h2:(b==0)<;>rfl
  · rename_i i a j b
    simp only[Zjy,ZwS]
    cases h:(i==j)<;>simp only[cond_true,cond_false,Zbx]
    cases h2:(b==0)<;>rfl
  · rename_i i a j b
    simp only[Zjy,shI,Zbx]
    cases h:decide (b<0)<;>rfl
  · rename_i i a j b
    simp only[Zjy,shI,Zbx]
    cases h:decide (b<0)<;>rfl
  · cases h:Zjy op x y with
    | none=>rfl
    | some r => cases r <;> try rfl
                exact ZgG _ _
theorem ZuG (H:Zc) (n:Nat) (ag:Bool) (x:V) (k:V->Option β):Zr7 H n ag x k=(match Zbv H n ag x with | some v=>k v | none=>none):=by
  unfold Zr7
  simp only[ZcB]
  simp only[Zqx]
  split
  · rename_i b sz i j
    simp only[Zbv]
    cases h:nth H b with
    | none=>rfl
    | some blk=>
      cases blk<;>try rfl
      rename_i sz' xs
      dsimp only
      cases h2:Nat.beq sz sz'<;>simp only[cond_true,cond_false]
      cases h3:nth xs i<;>rfl
  · rfl
theorem Zoh (H:Zc) (n:Nat) (x v:V) (k:K3 β):ZpB H n x v k=on3 (Zht H n x v) k:=by
  unfold ZpB
  simp only[ZcB]
  split
  · rename_i b sz i j
    simp only[Zht]
    cases h:nth H b with
    | none=>rfl
    | some blk=>
      cases blk<;>try rfl
      rename_i sz' xs
      dsimp only
      cases h2:Nat.beq sz sz'<;>simp only[cond_true,cond_false]<;>try rfl
      cases h3:nth xs i with
      | none=>rfl
      | some x=>
        cases h4:fr H 6 v with
        | none=>rfl
        | some q=>
          obtain⟨y,ks⟩:=q
          dsimp only
          cases h5:Ze3 ks b<;>simp only[cond_true,cond_false]<;>try rfl
          cases h6:(Nat.beq y.cells.length n&&Nat.ble (j+n) x.cells.length&&(V.d y).okb&&(x.isAgg || !y.isAgg))<;>rfl
  · rfl
theorem ZqU (nid:Nat) (H:Zc) (sz:Nat) (x y:V) (k:K3 β):Zo1 nid H sz x y k=on3 (Zer nid H sz x y) k:=by
  unfold Zo1 Zer
  cases h:elems H y with
  | none=>rfl
  | some ys=>
    simp only[Zbx,ZhK]
    cases h0:Zgr sz ys 0<;>simp only[cond_true,cond_false]<;>try rfl
    cases x<;>try rfl
    · rename_i b sz'
      dsimp only
      cases h1:nth H b with
      | none=>rfl
      | some blk=>
        cases blk<;>try rfl
        rename_i sz'' xs
        dsimp only
        cases h2:(Nat.beq sz sz'&&Nat.beq sz sz'')<;>simp only[cond_true,cond_false]<;>try rfl
        cases h3:Nat.ble (xs.length+ys.length) lim<;>rfl
    · rename_i b sz' o len
      dsimp only
      cases h1:nth H b with
      | none=>rfl
      | some blk=>
        cases blk<;>try rfl
        rename_i sz'' xs
        dsimp only
        cases h2:(Nat.beq sz sz'&&Nat.beq sz sz'')
        · simp only[Bool.false_and,cond_false];rfl
        · simp only[Bool.true_and,Zbx]
          cases h3:Nat.ble (o+len+ys.length) xs.length<;>rfl
    · dsimp only
      cases h3:Nat.ble ys.length lim<;>rfl
theorem ZqQ (H:Zc) (sz:Nat) (x y:V) (k:V->Option β):ZjZ H sz x y k=(match ZfL H sz x y with | some v=>k v | none=>none):=by
  unfold ZjZ ZfL
  cases x<;>try rfl
  dsimp only
  cases h:elems H y with
  | none=>rfl
  | some ys=>
    simp only[Zbx,ZhK]
    cases h0:Zgr sz ys 0<;>cases h1:Nat.ble ys.length lim<;>rfl
theorem ZtF (v:Option V) (d:Nat) (k:Nat->Option β):ZmR v d k=(match ZeU v d with | some n=>k n | none=>none):=by
  unfold ZmR ZeU
  cases v with
  | none=>rfl
  | some v=>
    cases v<;>try rfl
    rename_i x
    cases x<;>try rfl
    rename_i i n
    dsimp only
    rw[Zbx]
    cases h:decide (0<=n)<;>rfl
theorem Zti (H:Zc) (sz:Nat) (x:V) (lo hi mx:Option V) (k:V->Option β):Zo7 H sz x lo hi mx k=(match ZfJ H sz x lo hi mx with | some v=>k v | none=>none):=by
  unfold Zo7 ZfJ
  cases h:elems H x with
  | none=>rfl
  | some xs=>
    simp only[ZtF]
    cases h1:ZeU lo 0 with
    | none=>rfl
    | some l=>
      cases h2:ZeU hi xs.length with
      | none=>rfl
      | some hh=>
        simp only[Zbx,ZhK]
        cases h3:(Nat.ble l hh&&Nat.ble hh xs.length)<;>simp only[cond_true,cond_false]
        cases mx with
        | none=>
          cases x<;>try rfl
          · rename_i x
            cases x<;>try rfl
            dsimp only
            cases h4:(Nat.beq l 0 || Zgr sz xs l)<;>rfl
          · rename_i b sz'
            dsimp only
            cases h4:Nat.beq sz sz'<;>rfl
          · rename_i b sz' o len
            dsimp only
            cases h4:Nat.beq sz sz'<;>rfl
        | some m=>
          dsimp only
          cases h4:ZeU (some m) 0 with
          | none=>rfl
          | some m=>
            dsimp only
            cases h5:(Nat.beq m l&&Nat.beq m hh)<;>rfl
theorem ZtI (H:Zc) (sz:Nat) (x i:V) (k:V->Option β):Zpd H sz x i k=(match Zfq H sz x i with | some v=>k v | none=>none):=by
  unfold Zpd Zfq
  simp only[ZcB]
  cases i<;>try rfl
  rename_i i
  cases i<;>try rfl
  rename_i ki i
  cases x<;>try rfl
  · rename_i x
    cases x<;>try rfl
    rename_i own xs
    dsimp only
    cases h:ZG xs i with
    | none=>rfl
    | some x=>
      dsimp only
      cases h2:(Nat.beq x.cells.length sz&&(V.d x).okb)<;>rfl
  · rename_i b sz'
    dsimp only
    cases h1:nth H b with
    | none=>rfl
    | some blk=>
      cases blk<;>try rfl
      rename_i sz'' xs
      dsimp only
      cases h2:(Nat.beq sz sz'&&Nat.beq sz sz'')<;>simp only[cond_true,cond_false]
      cases h:ZG xs i<;>rfl
  · rename_i b sz' o len
    dsimp only
    cases h1:nth H b with
    | none=>rfl
    | some blk=>
      cases blk<;>try rfl
      rename_i sz'' xs
      dsimp only
      cases h2:(Nat.beq sz sz'&&Nat.beq sz sz'')<;>simp only[cond_true,cond_false]
      cases h:ZG ((xs.drop o).take len) i<;>rfl
theorem Zs9 (len sz:Nat) (ag:Bool) (x i:V) (k:V->Option β):ZoZ len sz ag x i k=(match ZjD len sz ag x i with | some v=>k v | none=>none):=by
  unfold ZoZ ZjD
  cases i<;>try rfl
  rename_i i
  cases i<;>try rfl
  rename_i ki i
  dsimp only
  rw[Zbx,ZcB]
  cases (x.isAggV&&(decide (0<=i)&&decide (i<(len:Int)))) with
  | false=>rfl
  | true=>simp only[cond_true];cases Zcz sz ag (List.drop (i.toNat*sz) x.cells)<;>rfl
theorem Zq5 (H:Zc) (len sz:Nat) (x i:V) (k:V->Option β):ZlN H len sz x i k=(match ZdP H len sz x i with | some v=>k v | none=>none):=by
  unfold ZlN ZdP
  cases i<;>try rfl
  rename_i i
  cases i<;>try rfl
  rename_i ki i
  dsimp only
  rw[Zbx]
  cases (decide (0<=i)&&decide (i<(len:Int)))<;>rfl
theorem ZqY (x i:V) (k:V->Option β):ZlX x i k=(match Zhu x i with | some v=>k v | none=>none):=by
  unfold ZlX Zhu
  cases x<;>try rfl
  rename_i x
  cases x<;>try rfl
  rename_i s
  cases i<;>try rfl
  rename_i i
  cases i<;>try rfl
  rename_i ki i
  dsimp only
  rw[Zbx,ZcB]
  cases decide (0<=i) with
  | false=>rfl
  | true=>simp only[cond_true];cases s[i.toNat]?<;>rfl
theorem Zsj (x:Res) (k:K3 β):(match x with | some (v,up,nw)=>Zol v fun v=>k v up nw | none=>none)=on3 x k:=by
  cases x with
  | none=>rfl
  | some q=>exact Zqx _ _
theorem ZtO (H:Zc) (x:V) (k:K3 β):Zue H x k=on3 (ZqT H x) k:=by
  unfold Zue ZqT
  cases Zov H x with
  | none=>rw[ZcB];rfl
  | some q=>
    obtain⟨b,zs⟩:=q
    rw[ZhK,Zbx]
    dsimp only
    cases Nat.ble zs.length lim<;>rfl
theorem Zrw (H:Zc) (ks:List Bool) (m x v:V) (k:K3 β):ZpE H ks m x v k=on3 (ZjJ H ks m x v) k:=by
  unfold ZpE ZjJ
  cases m<;>try rfl
  cases x<;>try rfl
  cases v<;>try rfl
  rename_i b x y
  dsimp only
  cases hb:nth H b with
  | none=>rfl
  | some blk=>
    cases blk<;>try rfl
    rename_i es
    dsimp only
    cases hk:(ZaN ks x&&Ze2 y) with
    | false=>rfl
    | true=>
      dsimp only
      rw[ZcB]
      cases hs:Zg5 es x y<;>rfl
theorem ZrK (H:Zc) (ks:List Bool) (z:D) (m x:V) (k:K3 β):ZpC H ks z m x k=on3 (match ZiM H ks z m x with | some r=>ZaG (.d r) | none=>none) k:=by
  unfold ZpC ZiM
  cases m<;>try rfl
  cases x<;>try rfl
  rename_i b x
  dsimp only
  cases hb:nth H b with
  | none=>rfl
  | some blk=>
    cases blk<;>try rfl
    rename_i es
    dsimp only
    cases hk:ZaN ks x with
    | false=>rfl
    | true=>
      dsimp only
      rw[ZcB]
      cases hs:ZwU es x z<;>rfl
theorem Zpg (Γ:Ctx) (cf:ZX) (e:Env) (nid:Nat) (H:Zc) (o:O) (k:K3 β):opK Γ cf e nid H o k=on3 (opE Γ cf e nid H o) k:=by
  cases o<;>try (first | rfl | exact Zsj _ _)
  · rename_i c a b
    show(match c.val e with | .d (.bool t)=>brL t (k (a.val e) [] []) (k (b.val e) [] []) | _=>none)=on3 (match c.val e with | .d (.bool t)=>ZaG (bif t then a.val e else b.val e) | _=>none) k
    cases c.val e<;>try rfl
    rename_i x
    cases x<;>try rfl
    rename_i t
    cases t<;>rfl
  · rename_i n ag x
    show Zr7 H n ag (x.val e) (fun v=>k v [] [])=on3 (match Zbv H n ag (x.val e) with | some v=>ZaG v | none=>none) k
    rw[ZuG]
    cases h:Zbv H n ag (x.val e)<;>rfl
  · exact Zoh _ _ _ _ _
  · rename_i op x y
    show ZwK op (x.val e) (y.val e) (fun v=>k v [] [])=on3 (match Zjy op (x.val e) (y.val e) with | some r=>ZaG (.d r) | none=>none) k
    rw[Zwt]
    cases h:Zjy op (x.val e) (y.val e)<;>rfl
  · rename_i ks neg x y
    show(match x.val e,y.val e with
      | .d a,.d b=>(match ZaN ks a with | true=>(match eqD a b with | some r=>Zid (bif neg then !r else r) (fun v=>k v [] []) | none=>none) | false=>none)
      | _,_=>none)=on3 (match x.val e,y.val e with
      | .d a,.d b=>(match ZaN ks a with | true=>(match eqD a b with | some r=>ZaG (.d (.bool (bif neg then !r else r))) | none=>none) | false=>none)
      | _,_=>none) k
    cases x.val e<;>try rfl
    rename_i a
    cases y.val e<;>try rfl
    rename_i b
    dsimp only
    cases hn:ZaN ks a<;>try rfl
    dsimp only
    cases h:eqD a b with
    | none=>rfl
    | some r=>exact ZgG _ _
  · rename_i op x
    cases op<;>try (first | rfl | exact Zsj _ _)
    show(match x.val e with | .d (.bool b)=>brL b (k (.d (.bool false)) [] []) (k (.d (.bool true)) [] []) | _=>none)=on3 (match unE .not (x.val e) with | some r=>ZaG (.d r) | none=>none) k
    cases x.val e<;>try rfl
    rename_i a
    cases a<;>try rfl
    rename_i b
    cases b<;>rfl
  · rename_i f caps
    cases caps<;>rfl
  · rename_i sz z n c
    show(match n.val e,c.val e with
      | .d (.int _ n),.d (.int _ c)=>br (decide (0<=n)&&decide (n<=lim)&&decide (n==c)) (bnd (some (List.replicate n.toNat (match z with | [x]=>x | z=>.agg z))) fun zs=>k (.sl nid sz) [] [.arr sz zs]) none
      | _,_=>none)=on3 (match n.val e,c.val e with
      | .d (.int _ n),.d (.int _ c)=>bif decide (0<=n)&&decide (n<=lim)&&decide (n==c) then some (.sl nid sz,[],[.arr sz (List.replicate n.toNat (match z with | [x]=>x | z=>.agg z))]) else none
      | _,_=>none) k
    cases n.val e<;>try rfl
    rename_i x
    cases x<;>try rfl
    rename_i i n1
    cases c.val e<;>try rfl
    rename_i x
    cases x<;>try rfl
    rename_i j c1
    dsimp only
    simp only[Zbx,ZhK]
    cases h3:(decide (0<=n1)&&decide (n1<=lim)&&decide (n1==c1))<;>rfl
  · rename_i sz x lo hi mx
    show Zo7 H sz (x.val e) (lo.map (·.val e)) (hi.map (·.val e)) (mx.map (·.val e)) (fun v=>k v [] [])=on3 (match ZfJ H sz (x.val e) (lo.map (·.val e)) (hi.map (·.val e)) (mx.map (·.val e)) with | some v=>ZaG v | none=>none) k
    rw[Zti]
    cases h:ZfJ H sz (x.val e) (lo.map (·.val e)) (hi.map (·.val e)) (mx.map (·.val e))<;>rfl
  · rename_i sz x i
    show Zpd H sz (x.val e) (i.val e) (fun v=>k v [] [])=on3 (match Zfq H sz (x.val e) (i.val e) with | some v=>ZaG v | none=>none) k
    rw[ZtI]
    cases h:Zfq H sz (x.val e) (i.val e)<;>rfl
  · rename_i len sz ag x i
    show ZoZ len sz ag (x.val e) (i.val e) (fun v=>k v [] [])=on3 (match ZjD len sz ag (x.val e) (i.val e) with | some v=>ZaG v | none=>none) k
    rw[Zs9]
    cases h:ZjD len sz ag (x.val e) (i.val e)<;>rfl
  · rename_i x i
    show ZlX (x.val e) (i.val e) (fun v=>k v [] [])=on3 (match Zhu (x.val e) (i.val e) with | some v=>ZaG v | none=>none) k
    rw[ZqY]
    cases h:Zhu (x.val e) (i.val e)<;>rfl
  · rename_i len sz x i
    show ZlN H len sz (x.val e) (i.val e) (fun v=>k v [] [])=on3 (match ZdP H len sz (x.val e) (i.val e) with | some v=>ZaG v | none=>none) k
    rw[Zq5]
    cases h:ZdP H len sz (x.val e) (i.val e)<;>rfl
  · rename_i x
    show(match elems H (x.val e) with | some xs=>bnd (some (xs.length:Int)) fun n=>k (.d (.int .i64 n)) [] [] | none=>none)=on3 (match Zpj H (x.val e) with | some r=>ZaG (.d r) | none=>none) k
    unfold Zpj
    cases elems H (x.val e) with
    | none=>rfl
    | some xs=>exact ZhK _ _
  · exact ZqU _ _ _ _ _ _
  · rename_i sz x y
    show ZjZ H sz (x.val e) (y.val e) (fun v=>k v [] [])=on3 (match ZfL H sz (x.val e) (y.val e) with | some v=>ZaG v | none=>none) k
    rw[ZqQ]
    cases h:ZfL H sz (x.val e) (y.val e)<;>rfl
  · rename_i x i
    show(match x.val e with
      | .tup vs=>(match nth vs i with | some (.d (.bool c))=>Zid c (fun v=>k v [] []) | some v=>k v [] [] | none=>none)
      | .d (.tup vs)=>(match nth vs i with | some (.bool c)=>Zid c (fun v=>k v [] []) | some v=>k (.d v) [] [] | none=>none)
      | _=>none)=on3 (match x.val e with
      | .tup vs=>(match nth vs i with | some v=>ZaG v | none=>none)
      | .d (.tup vs)=>(match nth vs i with | some v=>ZaG (.d v) | none=>none)
      | _=>none) k
    cases x.val e<;>try rfl
    · rename_i y
      cases y<;>try rfl
      rename_i vs
      dsimp only
      cases nth vs i with
      | none=>rfl
      | some v => cases v <;> try rfl
                  exact ZgG _ _
    · rename_i vs
      dsimp only
      cases nth vs i with
      | none=>rfl
      | some v => cases v <;> try rfl
                  rename_i y
                  cases y<;>try rfl
                  exact ZgG _ _
  · exact Zkb _ _ _ _ _ _ _
  · rename_i x args
    show(match ZhB (x.val e) with | some (f,caps)=>(match Zd7 Γ (x.val e) f caps with | true=>none | false=>Zk8 Γ cf nid H (ZiX f) (Zld f caps (ZcD e args)) k) | none=>none)=_
    rw[Zek]
    cases h:ZhB (x.val e) with
    | none=>rfl
    | some q=>
      obtain⟨f,caps⟩:=q
      dsimp only
      cases hb:Zd7 Γ (x.val e) f caps
      · exact Zkb _ _ _ _ _ _ _
      · rfl
  · rename_i tab x args
    show(match x.val e with
      | .d (.iface t y)=>(match Zif tab t with | some f=>Zk8 Γ cf nid H f (.d y :: ZcD e args) k | none=>none)
      | _=>none)=_
    rw[Zdx]
    cases h:x.val e<;>try rfl
    rename_i y
    cases y<;>try rfl
    rename_i t y
    dsimp only
    cases h2:Zif tab t with
    | none=>rfl
    | some f=>exact Zkb _ _ _ _ _ _ _
  · exact Zrw _ _ _ _ _ _
  · exact ZrK _ _ _ _ _ _
  · exact Zkb _ _ _ _ _ _ _
  · rename_i x
    show(match elems H (x.val e) with | some xs=>br (Nat.blt 0 xs.length) (k (.d (.bool false)) [] []) none | none=>none)=on3 (match elems H (x.val e) with | some xs=>(match Nat.blt 0 xs.length with | true=>ZaG (.d (.bool false)) | false=>none) | none=>none) k
    cases elems H (x.val e) with
    | none=>rfl
    | some xs=>
      dsimp only
      rw[Zbx]
      cases Nat.blt 0 xs.length<;>rfl
  · rename_i id args
    show(match H,ZhO (ZcD e args) with | [],some l=>bnd (Zi0 id l) fun r=>k (.d r) [] [] | _,_=>none)=on3 (match H,ZhO (ZcD e args) with | [],some l=>(match Zi0 id l with | some r=>ZaG (.d r) | none=>none) | _,_=>none) k
    cases H<;>cases ZhO (ZcD e args)<;>try rfl
    rename_i l
    dsimp only
    rw[ZcB]
    cases Zi0 id l<;>rfl
  · exact Zoh _ _ _ _ _
  · exact ZtO _ _ _
def Zk2 (e:Env) (g:Option (Nat×Bool)) (x y:Option β):Option β:=
  match g with
  | none=>x
  | some (s,b)=>match e s with | .d (.bool t)=>brL (t==b) x y | .d (.tup [])=>y | _=>none
theorem Zon (e:Env) (g:Option (Nat×Bool)) (x y:Option β):Zk2 e g x y=(match ZbO e g with | some true=>x | some false=>y | none=>none):=by
  unfold Zk2 ZbO
  cases g with
  | none=>rfl
  | some p=>
    obtain⟨s,b⟩:=p
    dsimp only
    split<;>rename_i h
    · simp only[h,brL];rename_i t;cases h2:t==b<;>rfl
    · simp only[h]
    · split<;>simp_all
end
section
variable {β:Type}
def ZoF (e:Env) (dst:Option Nat) (H:Zc) (v:V) (up:List (Nat×Blk)) (nw:List Blk) (k:Env->Zc->Option β):Option β:=
  ZoV v fun v=>match dst with
    | some i=>(match up,nw with
      | [],[]=>k (e.set i v) H
      | up,nw=>ZhV (Za4 H up++nw) fun H=>k (e.set i v) H)
    | none=>(match up,nw with
      | [],[]=>k e H
      | up,nw=>ZhV (Za4 H up++nw) fun H=>k e H)
theorem ZpU (e:Env) (dst:Option Nat) (H:Zc) (v:V) (up:List (Nat×Blk)) (nw:List Blk) (k:Env->Zc->Option β):ZoF e dst H v up nw k=k (Zjo e dst v) (Za4 H up++nw):=by
  unfold ZoF
  rw[ZoU]
  cases dst<;>dsimp only[Zjo]
  all_goals
    split
    · simp[Za4]
    · rw[ZgV]
def Zp6 (e:Env) (dst:Option Nat) (k:Env->Option β):Option β:=match dst with | some i=>k (e.set i (.d (.tup []))) | none=>k e
theorem ZqR (e:Env) (dst:Option Nat) (k:Env->Option β):Zp6 e dst k=k (Zjo e dst (.d (.tup []))):=by cases dst<;>rfl
def Zro:O->Bool
  | .mov _=>true
  | .pick _ _ _=>true
  | .build _ _=>true
  | .bin _ _ _=>true
  | .eqv _ _ _ _=>true
  | .un _ _=>true
  | .conv _ _=>true
  | .mkfn _ _=>true
  | .field _ _ _ _=>true
  | .index _ _ _ _ _=>true
  | .indexS _ _=>true
  | .mx _ _=>true
  | .extract _ _=>true
  | .bslice _ _ 0 _=>true
  | .alloc _=>true
  | .box _=>true
  | _=>false
theorem ZtC {Γ:Ctx}{cf:ZX}{e:Env}{nid:Nat}{H H':Zc}{op:O} (h:Zro op=true):opE Γ cf e nid H op=opE Γ cf e nid H' op:=by
  cases op<;>first | rfl | (cases h;done) | skip
  rename_i sz z len ps
  cases len with
  | zero=>rfl
  | succ n=>cases h
noncomputable def ZsV (Γ:Ctx) (cf:ZX) (l:List Op1) (e:Env) (H:Zc) (k:Env->Zc->Option β):Option β:=
  List.rec (motive:=fun _=>Env->Zc->(Env->Zc->Option β)->Option β) (fun e H k=>k e H)
    (fun o _ ih e H k=>Zk2 e o.guard (Zbu H.length fun nid=>opK Γ cf e nid H o.op fun v up nw=>ZoF e o.dst H v up nw fun e H=>ih e H k) (Zp6 e o.dst fun e=>ih e H k)) l e H k
theorem Zs0 (Γ:Ctx) (cf:ZX) (o:Op1) (r:List Op1) (e:Env) (H:Zc) (k:Env->Zc->Option β) :
    ZsV Γ cf (o :: r) e H k=Zk2 e o.guard (Zbu H.length fun nid=>opK Γ cf e nid H o.op fun v up nw=>ZoF e o.dst H v up nw fun e H=>ZsV Γ cf r e H k) (Zp6 e o.dst fun e=>ZsV Γ cf r e H k):=rfl
theorem Zpy (Γ:Ctx) (cf:ZX):∀(l:List Op1) (e:Env) (H:Zc) (k:Env->Zc->Option β),ZsV Γ cf l e H k=(match Zdo Γ cf l e H with | some (e,H)=>k e H | none=>none)
  | [],e,H,k=>rfl
  | o :: l,e,H,k=>by
    rw[Zs0]
    unfold Zdo
    rw[Zon,ZbL,Zpg,ZqR]
    cases hw:ZbO e o.guard with
    | none=>rfl
    | some b=>
      cases b with
      | false=>exact Zpy Γ cf l _ _ k
      | true=>
        dsimp only
        cases ho:opE Γ cf e H.length H o.op with
        | none=>rfl
        | some q=>obtain⟨v,up,nw⟩:=q;simp only[on3,ZpU];exact Zpy Γ cf l _ _ k
def Zji (l:List (Nat×Nat)) (k:List (Nat×Nat)->Option β):Option β:=
  match l with
  | []=>k []
  | p :: l=>Zbu p.1 fun a=>Zbu p.2 fun b=>Zji l fun l=>k ((a,b) :: l)
theorem Zk3:∀(l:List (Nat×Nat)) (k:List (Nat×Nat)->Option β),Zji l k=k l
  | [],k=>rfl
  | p :: l,k=>by unfold Zji;rw[ZbL,ZbL,Zk3 l]
def Zwy (o:O) (mask:List Nat) (H:Zc) (pos:List (Nat×Nat)) (k:Zc->Option β):Option β:=
  match Zro o with
  | true=>k H
  | false=>(match mask with | []=>k H | mask=>ZhV (Zd4 H pos mask) k)
noncomputable def Zn9 (Γ:Ctx) (cf:ZX) (pos:List (Nat×Nat)) (l:List Op1) (e:Env) (H:Zc) (k:Env->Zc->Option β):Option β:=
  List.rec (motive:=fun _=>List (Nat×Nat)->Env->Zc->(Env->Zc->Option β)->Option β) (fun _ e H k=>k e H)
    (fun o _ ih pos e H k=>Zk2 e o.guard (Zbu H.length fun nid=>Zwy o.op o.mask H pos fun Hm=>opK Γ cf e nid Hm o.op fun v up nw=>
      (match Zl8 e H o up nw with | true=>Zbu nw.length fun m=>Zji (pos++[(nid,m)]) fun pos=>ZoF e o.dst H v up nw fun e' H'=>ih pos e' H' k | false=>none)) (Zp6 e o.dst fun e'=>Zbu H.length fun nid=>Zji (pos++[(nid,0)]) fun pos=>ih pos e' H k)) l pos e H k
theorem Zrk (Γ:Ctx) (cf:ZX) (pos:List (Nat×Nat)) (o:Op1) (r:List Op1) (e:Env) (H:Zc) (k:Env->Zc->Option β) :
    Zn9 Γ cf pos (o :: r) e H k=Zk2 e o.guard (Zbu H.length fun nid=>Zwy o.op o.mask H pos fun Hm=>opK Γ cf e nid Hm o.op fun v up nw=>
      (match Zl8 e H o up nw with | true=>Zbu nw.length fun m=>Zji (pos++[(nid,m)]) fun pos=>ZoF e o.dst H v up nw fun e' H'=>Zn9 Γ cf pos r e' H' k | false=>none)) (Zp6 e o.dst fun e'=>Zbu H.length fun nid=>Zji (pos++[(nid,0)]) fun pos=>Zn9 Γ cf pos r e' H k):=rfl
theorem Zvf (Γ:Ctx) (cf:ZX) (e:Env) (nid:Nat) (o:O) (mask:List Nat) (H:Zc) (pos:List (Nat×Nat)) (k:K3 β):(Zwy o mask H pos fun Hm=>opK Γ cf e nid Hm o k)=opK Γ cf e nid (Zd4 H pos mask) o k:=by
  unfold Zwy
  cases h:Zro o with
  | true=>dsimp only;rw[Zpg,Zpg,ZtC h (H:=H) (H':=Zd4 H pos mask)]
  | false=>
    dsimp only
    cases mask with
    | nil=>rfl
    | cons a l=>dsimp only;rw[ZgV]
theorem Znq (Γ:Ctx) (cf:ZX):∀(l:List Op1) (pos:List (Nat×Nat)) (e:Env) (H:Zc) (k:Env->Zc->Option β),Zn9 Γ cf pos l e H k=(match Zc2 Γ cf pos l e H with | some (e,H)=>k e H | none=>none)
  | [],pos,e,H,k=>rfl
  | o :: l,pos,e,H,k=>by
    rw[Zrk]
    unfold Zc2
    rw[Zon,ZbL,Zvf,Zpg,ZqR,ZbL,Zk3]
    cases hw:ZbO e o.guard with
    | none=>rfl
    | some b=>
      cases b with
      | false=>exact Znq Γ cf l _ _ _ k
      | true=>
        dsimp only
        cases ho:opE Γ cf e H.length (Zd4 H pos o.mask) o.op with
        | none=>rfl
        | some q=>
          obtain⟨v,up,nw⟩:=q
          simp only[on3]
          cases hb:(Zl8 e H o up nw)<;>simp only[cond_true,cond_false,ZpU,ZbL,Zk3]
          exact Znq Γ cf l _ _ _ k
noncomputable def lpW (Γ:Ctx) (k:Nat) (live outs:List Nat) (a:C) (vs:List V) (H:Zc):Option (Ex×List V×Zc):=
  itW (fun vs H=>Zck k live outs (Zp Γ (evW Γ) itW k a (ZbB live vs) H)) vs H
noncomputable def ZeJ (Γ:Ctx) (k0:Nat) (c:C) (e:Env) (H:Zc) (k:Ex->Env->Zc->Option β):Option β:=
  C.rec (motive:=fun _=>Env->Zc->(Ex->Env->Zc->Option β)->Option β)
    (fun e H k=>k .normal e H) (fun e H k=>k .ret e H) (fun id e H k=>k (.exit id) e H)
    (fun _ _ ia ib e H k=>ia e H fun x e H=>(match x with | .normal=>ib e H k | .exit i=>k (.exit i) e H | .ret=>k .ret e H))
    (fun x _ _ ia ib e H k=>(match x.val e with | .d (.bool t)=>brL t (ia e H k) (ib e H k) | _=>none))
    (fun id _ ia e H k=>ia e H fun x e H=>(match x with | .exit j=>(match Nat.beq j id with | true=>k .normal e H | false=>k (.exit j) e H) | .normal=>k .normal e H | .ret=>k .ret e H))
    (fun live outs a _ e H k=>Zlb k0 (live.map e) H fun vs H=>bnd (lpW Γ k0 live outs a vs H) fun r=>k r.1 (ZbB outs r.2.1) r.2.2)
    (fun l e H k=>ZsV Γ (evW Γ) l e H fun e H=>k .normal e H)
    (fun l e H k=>Zn9 Γ (evW Γ) [] l e H fun e H=>k .normal e H) c e H k
theorem ZjH (Γ:Ctx) (k0:Nat):∀(c:C) (e:Env) (H:Zc) (k:Ex->Env->Zc->Option β),ZeJ Γ k0 c e H k=(match Zp Γ (evW Γ) itW k0 c e H with | some (x,e,H)=>k x e H | none=>none):=by
  intro c
  induction c with
  | skip=>intros;rfl
  | ret=>intros;rfl
  | exit id=>intros;rfl
  | seq a b iha ihb=>
    intro e H k
    show(ZeJ Γ k0 a e H fun x e H=>(match x with | .normal=>ZeJ Γ k0 b e H k | .exit i=>k (.exit i) e H | .ret=>k .ret e H))=_
    unfold Zp
    rw[iha]
    cases h:Zp Γ (evW Γ) itW k0 a e H with
    | none=>rfl
    | some q=>
      obtain⟨x,e1,H1⟩:=q
      cases x with
      | normal=>exact ihb e1 H1 k
      | exit i=>rfl
      | ret=>rfl
  | cond x a b iha ihb=>
    intro e H k
    show(match x.val e with | .d (.bool t)=>brL t (ZeJ Γ k0 a e H k) (ZeJ Γ k0 b e H k) | _=>none)=_
    unfold Zp
    cases h:x.val e<;>try rfl
    rename_i y
    cases y<;>try rfl
    rename_i t
    cases t
    · exact ihb e H k
    · exact iha e H k
  | block id a iha=>
    intro e H k
    show(ZeJ Γ k0 a e H fun x e H=>(match x with | .exit j=>(match Nat.beq j id with | true=>k .normal e H | false=>k (.exit j) e H) | .normal=>k .normal e H | .ret=>k .ret e H))=_
    unfold Zp
    rw[iha]
    cases h:Zp Γ (evW Γ) itW k0 a e H with
    | none=>rfl
    | some q=>
      obtain⟨x,e1,H1⟩:=q
      cases x with
      | normal=>rfl
      | exit j=>dsimp only;cases h2:Nat.beq j id<;>rfl
      | ret=>rfl
  | loop live outs a iha=>
    intro e H k
    show(Zlb k0 (live.map e) H fun vs H=>bnd (lpW Γ k0 live outs a vs H) fun r=>k r.1 (ZbB outs r.2.1) r.2.2)=_
    unfold Zp
    rw[Zql]
    cases h:ZlA k0 (live.map e) H with
    | none=>rfl
    | some q=>
      obtain⟨vs,H1⟩:=q
      simp only[lpW,ZcB]
      cases h2:itW (fun vs H=>Zck k0 live outs (Zp Γ (evW Γ) itW k0 a (ZbB live vs) H)) vs H1 with
      | none=>rfl
      | some r=>obtain⟨x,vs,H⟩:=r;rfl
  | ops l=>
    intro e H k
    show(ZsV Γ (evW Γ) l e H fun e H=>k .normal e H)=_
    unfold Zp
    rw[Zpy]
    cases h:Zdo Γ (evW Γ) l e H<;>rfl
  | draw l=>
    intro e H k
    show(Zn9 Γ (evW Γ) [] l e H fun e H=>k .normal e H)=_
    unfold Zp
    rw[Znq]
    cases h:Zc2 Γ (evW Γ) [] l e H<;>rfl
theorem ZxZ (Γ:Ctx) (k:Nat) (live outs:List Nat) (a:C) (vs:List V) (H:Zc) :
    lpW Γ k live outs a vs H=ZeJ Γ k a (ZbB live vs) H fun x e H=>(match x with
      | .normal=>Zlb k (live.map e) H fun vs H=>lpW Γ k live outs a vs H
      | x=>ZcF k (outs.map e) H fun _ vs H=>some (x,vs,H)):=by
  unfold lpW
  rw[ZxK,ZjH]
  cases h:Zp Γ (evW Γ) itW k a (ZbB live vs) H with
  | none=>rfl
  | some q=>
    obtain⟨x,e,H1⟩:=q
    cases x with
    | normal=>
      simp only[Zck]
      rw[Zql]
      cases h2:ZlA k (live.map e) H1 with
      | none=>rfl
      | some r=>obtain⟨vs,H2⟩:=r;rfl
    | exit j=>
      simp only[Zck]
      rw[Zbm]
      cases h2:extract k (outs.map e) H1 with
      | none=>rfl
      | some r=>obtain⟨L,vs,H2⟩:=r;rfl
    | ret=>
      simp only[Zck]
      rw[Zbm]
      cases h2:extract k (outs.map e) H1 with
      | none=>rfl
      | some r=>obtain⟨L,vs,H2⟩:=r;rfl
theorem Zxn (Γ:Ctx) (f:Nat) (fn:FnI) (args:List V) (H:Zc) (hc:Γ.code f=some fn) (hn:Nat.beq args.length fn.nargs=true) :
    evW Γ f args H=ZeJ Γ H.length fn.body (Zbb 0 args) H fun x e H1=>(match x with
      | .exit _=>none
      | _=>(match ZgK e H1 fn.res with
        | some l=>ZcF H.length [Zdz l] H1 fun _ vs H2=>(match vs with | [v]=>some (v,H2) | _=>none)
        | none=>none)):=by
  rw[Zx8]
  unfold ZeC
  simp only[hc,hn,cond_true]
  rw[ZjH]
  cases h:Zp Γ (evW Γ) itW H.length fn.body (Zbb 0 args) H with
  | none=>rfl
  | some q=>
    obtain⟨x,e,H1⟩:=q
    cases x<;>try rfl
    all_goals
      dsimp only
      cases h2:ZgK e H1 fn.res with
      | none=>rfl
      | some l=>
        dsimp only
        rw[Zbm]
        cases h3:extract H.length [Zdz l] H1 with
        | none=>rfl
        | some q=>
          obtain⟨L,vs,H2⟩:=q
          match vs with
          | []=>rfl
          | [v]=>rfl
          | _ :: _ :: _=>rfl
end
theorem ZAg {β:Type} (x y:Option β):br true x y=x:=Zbx _ _ _
theorem ZAD {β:Type} (x y:Option β):br false x y=y:=Zbx _ _ _
theorem Zp0 {β:Type} (x:Option β):bnd x some=x:=by rw[ZcB];cases x<;>rfl
attribute [irreducible] br bnd lpW
end Go.Proofs.YtgcfmiajkbbmeaaGreatE
namespace Go.Proofs.YtgcfmiajkbbmeaaGreatE
open Go
open Go.IntKind (u64 i64 u32 i32 u8)
structure ZzX where
 op:Int
 arg:Int
 work:Int
 deriving DecidableEq
structure Zo where
 src:Int
 dst:Int
 deriving DecidableEq
structure ZrW where
 maker:Int
 user:Int
 pos:Int
 deriving DecidableEq
structure ZmJ where
 ins:List Int
 outs:List Int
 deriving DecidableEq
structure Zr9 where
 period:Int
 deadline:Int
 parts:List ZzX
 edges:List Zo
 futures:List ZrW
 barriers:List ZmJ
 deriving DecidableEq
abbrev Zq (n:Int):D:=.int .i64 n
abbrev Zxl (τ:Bool) (l:List Int):D:=.list τ (l.map Zq)
abbrev ZbC (e:Zo):D:=.agg [Zq e.src,Zq e.dst]
theorem Zyn {n:Int} (h1 : -9223372036854775808<=n) (h2:n<9223372036854775808):i64.wrap n=n:=by
 show(if (true&&decide (n % 18446744073709551616 ≥ 9223372036854775808))=true then n % 18446744073709551616-18446744073709551616 else n % 18446744073709551616)=n
 by_cases h:n % 18446744073709551616 ≥ 9223372036854775808
 ·rw[decide_eq_true h];simp only[Bool.and_self,if_true];omega
 ·rw[decide_eq_false h];simp only[Bool.and_false,Bool.false_eq_true,if_false];omega
theorem ZuJ {α:Type} (xs:List α) (i:Nat):ZG xs (i:Int)=xs[i]?:=by
 unfold ZG
 have:decide ((0:Int)<=i)=true:=by simp
 rw[this];simp[Zy]
theorem ZzH (Γ:Ctx) (k:Nat) (live outs:List Nat) (a:C) (vs:List V) (H:Zc) :
  lpW Γ k live outs a vs H=ZeJ Γ k a (ZbB live vs) H fun x e H=>(match x with
   | .normal=>Zlb k (live.map e) H fun vs H=>bnd (lpW Γ k live outs a vs H) some
   | x=>ZcF k (outs.map e) H fun _ vs H=>some (x,vs,H)):=by
 refine(ZxZ Γ k live outs a vs H).trans (congrArg (ZeJ Γ k a (ZbB live vs) H) ?_)
 funext x e H
 cases x
 ·exact congrArg (Zlb k (live.map e) H) (funext fun vs=>funext fun H=>(Zp0 _).symm)
 ·rfl
 ·rfl
theorem Zcp {α:Type}{f:α->D}{sz:Nat} (hf:∀x,(f x).cells.length=sz/\(V.d (f x)).okb=true) (l:List α) (i:Nat):Zgr sz (l.map f) i=true:=by
 unfold Zgr
 rw[Zy,List.getElem?_map]
 cases l[i]? with
 | none=>rfl
 | some x=>simp[hf x]
def first {α:Type} (p:α->Bool):Nat->List α->Option Nat
 | _,[]=>none
 | i,x :: l=>bif p x then some i else first p (i+1) l
theorem ZxM {Γ:Ctx}{f:Nat}{args:List V}{H:Zc}{r:V×Zc} (n:Nat) (h:evN Γ n f args H=some r):evW Γ f args H=some r:=(ZfY Γ f args H r).2 ⟨n,h⟩
theorem Zpx {α:Type}{f:α->D}{p:α->Prop}:∀{xs:List D},(∀y∈xs,∃a,y=f a/\p a)->∃l:List α,xs=l.map f/\∀a∈l,p a
 | [],_=>⟨[],rfl,by simp⟩
 | x :: xs,h=>by
  obtain⟨a,ha,hp⟩:=h x (by simp)
  obtain⟨l,hl,hq⟩:=Zpx (xs:=xs) fun y hy=>h y (by simp[hy])
  refine⟨a :: l,by rw[ha,hl];rfl,fun b hb=>?_⟩
  rcases List.mem_cons.1 hb with rfl | hb
  ·exact hp
  ·exact hq b hb
def I64 (n:Int):Prop:=-9223372036854775808<=n/\n<9223372036854775808
theorem ZrQ {n:Int} (h:(Lit.int .i64 n).wf=true):I64 n:=by
 unfold Lit.wf at h
 simp only[Bool.and_eq_true,decide_eq_true_eq] at h
 have e1:i64.min = -9223372036854775808:=by decide
 have e2:i64.max=9223372036854775807:=by decide
 rw[e1,e2] at h
 unfold I64
 omega
theorem Zyt {y:D}{n:Nat} (h:y.isAgg=true):y = .agg y.cells:=by
 cases y<;>first | rfl | cases h
theorem ZwL {y:D} (h:y.isAgg=false):y.cells=[y]:=by
 cases y<;>first | rfl | cases h
theorem Zxt {n:Nat} (h:n<=maxLen):n<9223372036854775808:=by
 unfold maxLen at h;omega
def ZyZ (l:List Int):Prop:=l.length<9223372036854775808/\∀n∈l,I64 n
theorem Zhf {x:D} (h:ZwN (.sl false [.int .i64]) x):∃l,x=Zxl true l/\ZyZ l:=by
 obtain⟨xs,rfl,h1,h2⟩:=h
 obtain⟨l,hl,hp⟩:=Zpx (f:=Zq) (p:=I64) (xs:=xs) fun y hy=>by
  obtain⟨a1,a2⟩:=h2 y hy
  rw[ZwL a1] at a2
  obtain⟨d,r,e1,⟨n,e2,e3⟩,_⟩:=a2
  cases e1
  exact⟨n,e2,ZrQ e3⟩
 subst hl
 exact⟨l,rfl,by simpa using Zxt h1,hp⟩
def Zyd (e:Zo):Prop:=I64 e.src/\I64 e.dst
theorem Zo9 {x:D}{els:List Lf}{α:Type}{f:α->D}{p:α->Prop} (h:ZwN (.sl true els) x) (hf:∀cs,ZdL els cs->∃a,D.agg cs=f a/\p a):∃l:List α,x = .list true (l.map f)/\l.length<9223372036854775808/\∀a∈l,p a:=by
 obtain⟨xs,rfl,h1,h2⟩:=h
 obtain⟨l,hl,hp⟩:=Zpx (f:=f) (p:=p) (xs:=xs) fun y hy=>by
  obtain⟨a1,a2⟩:=h2 y hy
  rw[Zyt (n:=0) a1]
  exact hf _ a2
 subst hl
 exact⟨l,rfl,by simpa using Zxt h1,hp⟩
def lpN {S R:Type} (step:S->Option (S⊕R)):Nat->S->Option R
 | 0,_=>none
 | n+1,s=>(match step s with | some (.inl s')=>lpN step n s' | some (.inr r)=>some r | none=>none)
theorem Zq3 {S R:Type} (step:S->Option (S⊕R)):∀(n m:Nat) (s:S) (r:R),n<=m->lpN step n s=some r->lpN step m s=some r
 | 0,_,_,_,_,h=>by cases h
 | n+1,0,_,_,hm,_=>by omega
 | n+1,m+1,s,r,hm,h=>by
  unfold lpN at h ⊢
  cases hs:step s with
  | none=>rw[hs] at h;cases h
  | some t=>
   rw[hs] at h
   cases t with
   | inl s'=>exact Zq3 step n m s' r (by omega) h
   | inr r'=>exact h
noncomputable def lp {S R:Type} (step:S->Option (S⊕R)) (s:S):Option R:=@dite _ (∃n,(lpN step n s).isSome=true) (Classical.propDecidable _) (fun h=>lpN step (Classical.choose h) s) fun _=>none
theorem Zui {S R:Type}{step:S->Option (S⊕R)}{s:S}{r:R}{n:Nat} (h:lpN step n s=some r):lp step s=some r:=by
 unfold lp
 have hx:∃n,(lpN step n s).isSome=true:=⟨n,by rw[h];rfl⟩
 rw[dif_pos hx]
 have h2:=Classical.choose_spec hx
 cases h3:lpN step (Classical.choose hx) s with
 | none=>rw[h3] at h2;cases h2
 | some q=>
  have h4:=Zq3 step _ (max n (Classical.choose hx)) s q (by omega) h3
  have h5:=Zq3 step _ (max n (Classical.choose hx)) s r (by omega) h
  rw[h4] at h5
  exact h5
theorem Zvj {S R:Type}{step:S->Option (S⊕R)}{s:S}{r:R} (h:lp step s=some r):∃n,lpN step n s=some r:=by
 unfold lp at h
 split at h
 ·exact⟨_,h⟩
 ·cases h
theorem ZbS {S R:Type} (step:S->Option (S⊕R)) (s:S):lp step s=(match step s with | some (.inl s')=>lp step s' | some (.inr r)=>some r | none=>none):=by
 have key:∀r,lp step s=some r↔(match step s with | some (.inl s')=>lp step s' | some (.inr r)=>some r | none=>none)=some r:=by
  intro r
  constructor
  ·intro h
   obtain⟨n,hn⟩:=Zvj h
   cases n with
   | zero=>cases hn
   | succ n=>
    unfold lpN at hn
    cases hs:step s with
    | none=>rw[hs] at hn;cases hn
    | some t=>
     rw[hs] at hn
     cases t with
     | inl s'=>exact Zui hn
     | inr r'=>exact hn
  ·intro h
   cases hs:step s with
   | none=>rw[hs] at h;cases h
   | some t=>
    rw[hs] at h
    cases t with
    | inl s'=>
     obtain⟨n,hn⟩:=Zvj h
     exact Zui (n:=n+1) (by unfold lpN;rw[hs];exact hn)
    | inr r'=>exact Zui (n:=1) (by unfold lpN;rw[hs];exact h)
 cases h1:lp step s with
 | some r=>exact((key r).1 h1).symm
 | none=>
  cases h2:(match step s with | some (.inl s')=>lp step s' | some (.inr r)=>some r | none=>none) with
  | none=>rfl
  | some r=>rw[(key r).2 h2] at h1;cases h1
def Zbo {α β:Type} (E:Option α) (Q:α->Option β->Prop) (rhs:Option β):Prop:=∀a,E=some a->Q a rhs
section
variable {α β:Type} {A B:Option α} {Q:α->Option β->Prop}
theorem ZaA {c c':Bool}{X Y:Option β} (h:c=c') (h1:Zbo A Q X) (h2:Zbo B Q Y):Zbo (bif c' then A else B) Q (br c X Y):=by
 subst h
 cases c with
 | true=>rw[ZAg];exact h1
 | false=>rw[ZAD];exact h2
theorem Zf6 {c:Bool}{X Y:Option β} (h:c=true) (h1:Zbo A Q X):Zbo A Q (br c X Y):=by rw[h,ZAg];exact h1
theorem ZzF {c:Bool}{X Y:Option β} (h:c=false) (h1:Zbo A Q Y):Zbo A Q (br c X Y):=by rw[h,ZAD];exact h1
theorem Zd {γ:Type}{x x':γ}{K:γ->Option β} (h:x=x') (k:Zbo A Q (K x')):Zbo A Q (bnd (some x) K):=by rw[h,ZhK];exact k
theorem Zu {γ:Type}{X:Option γ}{x:γ}{K:γ->Option β} (h:X=some x) (k:Zbo A Q (K x)):Zbo A Q (bnd X K):=by rw[h,ZhK];exact k
theorem Zg {γ δ:Type}{E:Option γ}{A:γ->Option α}{X:Option δ}{K:δ->Option β} (enc:γ->δ) (h:∀r,E=some r->X=some (enc r)) (k:∀r,E=some r->Zbo (A r) Q (K (enc r))):Zbo (E.bind A) Q (bnd X K):=by
 intro a ha
 cases hE:E with
 | none=>rw[hE] at ha;cases ha
 | some r=>
  rw[hE] at ha
  rw[h r hE,ZhK]
  exact k r hE a ha
theorem ZqJ {γ δ:Type} (f:γ->δ) (l:List γ) (i:Int):ZG (l.map f) i=(ZG l i).map f:=by
 unfold ZG
 cases decide (0<=i) with
 | false=>rfl
 | true=>simp only[cond_true,Zy,List.getElem?_map]
theorem Zwd {γ:Type}{f:γ->D}{l:List γ}{xs:List D}{i i':Int}{A:γ->Option α}{K:D->Option β} (hx:xs=l.map f) (hi:i=i') (k:∀r,ZG l i'=some r->Zbo (A r) Q (K (f r))):Zbo ((ZG l i').bind A) Q (bnd (ZG xs i) K):=by
 subst hx hi
 exact Zg f (fun r h=>by rw[ZqJ,h];rfl) k
theorem Zay {γ:Type}{f:γ->D}{l:List γ}{xs:List D}{i:Int}{r:γ} (hx:xs=l.map f) (h:ZG l i=some r):nth xs i.toNat=some (f r):=by
 subst hx
 unfold ZG at h
 cases hd:decide (0<=i) with
 | false=>rw[hd] at h;cases h
 | true=>rw[hd,cond_true,Zy] at h;rw[Zy,List.getElem?_map,h];rfl
theorem ZeT {γ:Type}{f:γ->D}{l:List γ}{xs:List D}{i:Int}{r:γ} (hx:xs=l.map f) (h:ZG l i=some r):ZG xs i=some (f r):=by
 subst hx
 rw[ZqJ,h];rfl
theorem Zm8:∀l:List Int,ZeQ (List.map Zq l)=some l
 | []=>rfl
 | x :: r=>by
  show(match ZeQ (List.map Zq r) with | some l=>some (x :: l) | none=>none)=_
  rw[Zm8 r]
theorem ZqP {H:Zc}{b:Nat}{m:List Int} (h:nth H b=some (.arr 1 (List.map Zq m))):Zov H (.sl b 1)=some (b,m):=by
 show(match nth H b with | some (.arr 1 xs)=>(match ZeQ xs with | some zs=>some (b,zs) | none=>none) | _=>none)=_
 rw[h]
 show(match ZeQ (List.map Zq m) with | some zs=>some (b,zs) | none=>none)=_
 rw[Zm8]
theorem Zh {a:α}{X:Option β} (h:Q a X):Zbo (some a) Q X:=fun b hb=>by cases hb;exact h
theorem ZU {X:Option β}:Zbo (none:Option α) Q X:=fun b hb=>by cases hb
theorem Zr4 {γ:Type} (f:γ->D) (l:List γ):Nat.blt 0 (List.map f l).length=Nat.blt 0 (List.length l):=by rw[List.length_map]
noncomputable def evD (Γ:Ctx) (f:Nat) (args:List V):Option D:=bnd (evW Γ f args []) fun r=>(match fr r.2 6 r.1 with | some (x,_)=>some x | none=>none)
theorem Ztp (Γ:Ctx) (f:Nat) (args:List V) (K:V->Option β):bnd (evW Γ f args []) (Zk5 K)=bnd (evD Γ f args) (fun x=>ZsI x K):=by
 unfold evD Zk5
 simp only[ZcB]
 cases evW Γ f args [] with
 | none=>rfl
 | some r=>
  dsimp only
  cases fr r.2 6 r.1 with
  | none=>rfl
  | some q=>rfl
theorem Zvd {γ:Type}{Γ:Ctx}{f:Nat}{args args':List V}{E:Option γ}{A:γ->Option α}{K:V->Option β} (enc:γ->D) (w:∀r,E=some r->evD Γ f args'=some (enc r)) (ha:args=args') (k:∀r,E=some r->Zbo (A r) Q (ZsI (enc r) K)):Zbo (E.bind A) Q (bnd (evW Γ f args []) (Zk5 K)):=by
 subst ha
 rw[Ztp]
 exact Zg enc w k
end
theorem ZsL {β δ:Type} (Γ:Ctx) (k0:Nat) (c:C) (e:Env) (H:Zc) (k:Ex->Env->Zc->Option β) (p:β->Option δ):bnd (ZeJ Γ k0 c e H k) p=ZeJ Γ k0 c e H fun x e H=>bnd (k x e H) p:=by
 rw[ZjH,ZjH]
 cases Zp Γ (evW Γ) itW k0 c e H with
 | none=>exact ZcB _ _
 | some q=>rfl
theorem Zzy (Γ:Ctx) (f:Nat) (fn:FnI) (args:List V) (hc:Γ.code f=some fn) (hn:Nat.beq args.length fn.nargs=true) :
  evD Γ f args=ZeJ Γ 0 fn.body (Zbb 0 args) [] fun x e H1=>(match x with
   | .exit _=>none
   | _=>(match ZgK e H1 fn.res with
    | some l=>ZcF 0 [Zdz l] H1 fun _ vs H2=>(match vs with | [v]=>(match fr H2 6 v with | some (x,_)=>some x | none=>none) | _=>none)
    | none=>none)):=by
 unfold evD
 rw[Zxn Γ f fn args [] hc hn,ZsL]
 refine congrArg (ZeJ Γ 0 fn.body (Zbb 0 args) []) ?_
 funext x e H1
 have none_b:∀{γ δ:Type} (p:γ->Option δ),bnd none p=none:=fun p=>ZcB _ _
 cases x with
 | exit j=>exact none_b _
 | normal=>
  dsimp only
  cases ZgK e H1 fn.res with
  | none=>exact none_b _
  | some l=>
   dsimp only
   rw[Zbm,Zbm]
   show bnd (match extract 0 [Zdz l] H1 with | some (L,vs,H)=>_ | none=>none) _=_
   cases extract 0 [Zdz l] H1 with
   | none=>exact none_b _
   | some q=>
    obtain⟨L,vs,H2⟩:=q
    match vs with
    | []=>exact none_b _
    | [v]=>exact ZhK _ _
    | _ :: _ :: _=>exact none_b _
 | ret=>
  dsimp only
  cases ZgK e H1 fn.res with
  | none=>exact none_b _
  | some l=>
   dsimp only
   rw[Zbm,Zbm]
   show bnd (match extract 0 [Zdz l] H1 with | some (L,vs,H)=>_ | none=>none) _=_
   cases extract 0 [Zdz l] H1 with
   | none=>exact none_b _
   | some q=>
    obtain⟨L,vs,H2⟩:=q
    match vs with
    | []=>exact none_b _
    | [v]=>exact ZhK _ _
    | _ :: _ :: _=>exact none_b _
theorem Zyy {Γ:Ctx}{f:Nat}{args:List V}{x:D} (n:Nat) (h:(match evN Γ n f args [] with | some (v,H)=>(match fr H 6 v with | some (x,_)=>some x | none=>none) | none=>none)=some x):evD Γ f args=some x:=by
 cases hn:evN Γ n f args [] with
 | none=>rw[hn] at h;cases h
 | some r=>
  rw[hn] at h
  obtain⟨v,H⟩:=r
  unfold evD
  rw[ZxM n hn,ZhK]
  exact h
theorem Zzn {S R β:Type}{step:S->Option (S⊕R)}{G:S->Option β} (x:R->β)
  (h:∀(s:S) (rec:S->Option R),(∀s r,rec s=some r->G s=some (x r))->Zbo (step s) (fun t rhs=>(match t with | .inl s'=>∀r,rec s'=some r->rhs=some (x r) | .inr r=>rhs=some (x r))) (G s)):∀s r,lp step s=some r->G s=some (x r):=by
 intro s r hr
 obtain⟨n,hn⟩:=Zvj hr
 clear hr
 induction n generalizing s r with
 | zero=>cases hn
 | succ n ih=>
  unfold lpN at hn
  cases hs:step s with
  | none=>rw[hs] at hn;cases hn
  | some t=>
   rw[hs] at hn
   have:=h s (lpN step n) ih t hs
   cases t with
   | inl s'=>exact this r hn
   | inr r'=>cases hn;exact this
theorem Zi {S R β:Type}{G:Option β}{rec:S->Option R}{x:R->β}{s':S} (h:∀r,rec s'=some r->G=some (x r)):Zbo (some (Sum.inl s')) (fun(t:S⊕R) (rhs:Option β)=>(match t with | .inl s'=>∀r,rec s'=some r->rhs=some (x r) | .inr r=>rhs=some (x r))) (bnd G some):=by
 intro a ha
 cases ha
 intro r hr
 rw[Zp0]
 exact h r hr
theorem Zv0 {Γ:Ctx}{f:Nat}{args:List V} (h:evD Γ f args=some (.bool true)):∃H',evW Γ f args []=some (.d (.bool true),H'):=by
 unfold evD at h
 rw[ZcB] at h
 cases he:evW Γ f args [] with
 | none=>rw[he] at h;cases h
 | some r=>
  obtain⟨v,H⟩:=r
  rw[he] at h
  refine⟨H,?_⟩
  dsimp only at h
  cases hf:fr H 6 v with
  | none=>rw[hf] at h;cases h
  | some q=>
   obtain⟨x,ks⟩:=q
   rw[hf] at h
   cases h
   unfold fr at hf
   split at hf
   ·rename_i x
    split at hf
    ·rename_i ts
     cases he:ZrH ts<;>rw[he] at hf<;>cases hf
    ·rename_i y hy
     cases he:x.esc<;>rw[he] at hf<;>cases hf
     rfl
   all_goals
    first
    | cases hf
    | (split at hf<;>first | cases hf | (rename_i sz' xs _;revert hf;cases Nat.beq _ sz'<;>intro hf<;>cases hf) | skip)
   all_goals
    rename_i l ks _
    first
    | (cases he:D.escs l<;>rw[he] at hf<;>cases hf)
    | cases hf
theorem ZxG {α β:Type}{A B:Option α}{Q:α->Option β->Prop}{X:Option β} (h:Zbo A Q X):Zbo (bif true then A else B) Q X:=h
theorem ZyB {α β:Type}{A B:Option α}{Q:α->Option β->Prop}{X:Option β} (h:Zbo B Q X):Zbo (bif false then A else B) Q X:=h
abbrev w64 (n:Int):Int:=i64.wrap n
section
variable {γ:Type}
theorem Zk (f:γ->D) (l:List γ):(((List.map f l).length:Nat):Int)=((l.length:Nat):Int):=by rw[List.length_map]
theorem ZwE (f:γ->D) (z:γ) (n:Int):List.replicate n.toNat (f z)=List.map f (List.replicate n.toNat z):=by rw[List.map_replicate]
theorem ZoD {α:Type}:∀(l:List α) (i:Nat) (y:α),ZbZ l i y=l.set i y
 | [],_,_=>rfl
 | _ :: _,0,_=>rfl
 | x :: l,i+1,y=>congrArg (x :: ·) (ZoD l i y)
theorem Zdd (f:γ->D) (l:List γ) (i:Nat) (y:γ):ZbZ (List.map f l) i (f y)=List.map f (List.set l i y):=by rw[ZoD,List.map_set]
theorem Zfb (f:γ->D) (l m:List γ):List.map f l++List.map f m=List.map f (l++m):=by rw[List.map_append]
theorem Zfc (f:γ->D) (l:List γ) (n:Nat):Nat.ble ((List.map f l).length+n) lim=Nat.ble (l.length+n) lim:=by rw[List.length_map]
theorem ZcI (f:γ->D) (l:List γ):Nat.ble (List.map f l).length lim=Nat.ble l.length lim:=by rw[List.length_map]
theorem ZvD (f:γ->D) (l:List γ) (o n:Nat):List.take n (List.drop o (List.map f l))=List.map f (List.take n (List.drop o l)):=by rw[<- List.map_drop,<- List.map_take]
theorem ZsE (f:γ->D) (l:List γ) (hi:Nat):List.take (hi-0) (List.drop 0 (List.map f l))=List.map f (List.take hi l):=by rw[ZvD];rfl
theorem ZrA (f:γ->D) (l:List γ) (lo:Nat):List.take ((List.map f l).length-lo) (List.drop lo (List.map f l))=List.map f (List.drop lo l):=by
 rw[ZvD,List.length_map,List.take_of_length_le (by rw[List.length_drop];exact Nat.le_refl _)]
theorem ZxQ (f:γ->D) {sz:Nat} (hf:∀x,(f x).cells.length=sz/\(V.d (f x)).okb=true) (l:List γ) (i:Nat):(Nat.beq i 0 || Zgr sz (List.map f l) i)=true:=by rw[Zcp hf,Bool.or_true]
theorem ZtR (f:γ->D) (l:List γ) (lo:Nat):(Nat.ble lo (List.map f l).length&&Nat.ble (List.map f l).length (List.map f l).length)=Nat.ble lo l.length:=by rw[List.length_map,Nat.ble_eq_true_of_le (Nat.le_refl l.length),Bool.and_true]
theorem Zxp (f:γ->D) (l:List γ) (hi:Nat):(Nat.ble 0 hi&&Nat.ble hi (List.map f l).length)=Nat.ble hi l.length:=by rw[List.length_map];cases hi<;>rfl
end
end Go.Proofs.YtgcfmiajkbbmeaaGreatE
namespace Go.Proofs.YtgcfmiajkbbmeaaGreatE
open Go
open Go.IntKind (u64 i64 u32 i32 u8)
theorem ZcJ {i n:Nat} (h:i<n):decide ((i:Int)<(n:Int))=true:=decide_eq_true (by omega)
theorem ZcW (n:Nat):decide ((n:Int)<(n:Int))=false:=decide_eq_false (by omega)
theorem Zr {γ:Type}{l:List γ}{i:Nat}{x:γ} (h:l[i]? = some x):ZG l (i:Int)=some x:=(ZuJ l i).trans h
theorem ZrR {γ:Type}{l:List γ}{i:Int}{x:γ} (h0:0<=i) (h:l[i.toNat]? = some x):ZG l i=some x:=by
 have:=Zr h
 rwa [Int.toNat_of_nonneg h0] at this
theorem Zc3 {n:Int} (h1 : -9223372036854775808<=n) (h2:n<9223372036854775808):w64 n=n:=Zyn h1 h2
theorem ZN {i n:Nat} (h:i<n) (hn:n<9223372036854775808):w64 ((i:Int)+1)=((i+1:Nat):Int):=by rw[Zc3 (by omega) (by omega)];omega
theorem Zc1 {n:Nat} (h:n<=1073741824):Nat.ble n lim=true:=Nat.ble_eq_true_of_le h
def ZnO {γ S R:Type} (f:Nat->γ->S->Option (S⊕R)) (fin:S->Option R):Nat->List γ->S->Option R
 | _,[],s=>fin s
 | i,x :: l,s=>(match f i x s with | some (.inl s')=>ZnO f fin (i+1) l s' | some (.inr r)=>some r | none=>none)
theorem ZrZ {γ S St R:Type} (l:List γ) (step:St->Option (St⊕R)) (st:Nat->S->St) (f:Nat->γ->S->Option (S⊕R)) (fin:S->Option R)
  (h1:∀i x s,i<l.length->l[i]? = some x->step (st i s)=(match f i x s with | some (.inl s')=>some (.inl (st (i+1) s')) | some (.inr r)=>some (.inr r) | none=>none))
  (h2:∀s,step (st l.length s)=(fin s).map Sum.inr):∀s,lp step (st 0 s)=ZnO f fin 0 l s:=by
 have key:∀(k i:Nat) (s:S),i+k=l.length->lp step (st i s)=ZnO f fin i (l.drop i) s:=by
  intro k
  induction k with
  | zero=>
   intro i s hi
   have:i=l.length:=by omega
   subst this
   rw[List.drop_length,ZbS,h2]
   unfold ZnO
   cases fin s<;>rfl
  | succ k ih=>
   intro i s hi
   have hi':i<l.length:=by omega
   rw[List.drop_eq_getElem_cons hi',ZbS,h1 i l[i] s hi' (List.getElem?_eq_getElem hi')]
   conv=>rhs;unfold ZnO
   cases f i l[i] s with
   | none=>rfl
   | some t=>
    cases t with
    | inl s'=>exact ih (i+1) s' (by omega)
    | inr r=>rfl
 intro s
 have:=key l.length 0 s (by omega)
 rwa [List.drop_zero] at this
def Zhx {γ R:Type} (p:Nat->γ->Bool) (out:Nat->γ->R) (fin:R):Nat->List γ->R
 | _,[]=>fin
 | i,x :: l=>bif p i x then out i x else Zhx p out fin (i+1) l
theorem Zg6 {γ R:Type} (l:List γ) (step:Int->Option (Int⊕R)) (p:Nat->γ->Bool) (out:Nat->γ->R) (fin:R)
  (h1:∀i x,i<l.length->l[i]? = some x->step (i:Int)=some (bif p i x then .inr (out i x) else .inl ((i+1:Nat):Int)))
  (h2:step (l.length:Int)=some (.inr fin)):lp step 0=some (Zhx p out fin 0 l):=by
 have key:=ZrZ (S:=Unit) l step (fun i _=>(i:Int)) (fun i x _=>some (bif p i x then .inr (out i x) else .inl ())) (fun _=>some fin)
  (fun i x s hi hx=>by rw[h1 i x hi hx];cases p i x<;>rfl) (fun _=>h2) ()
 refine(key:lp step 0=_).trans ?_
 have:∀(l:List γ) (i:Nat),ZnO (S:=Unit) (fun i x _=>some (bif p i x then Sum.inr (out i x) else Sum.inl ())) (fun _=>some fin) i l ()=some (Zhx p out fin i l):=by
  intro l
  induction l with
  | nil=>intro i;rfl
  | cons x l ih=>
   intro i
   unfold ZnO Zhx
   cases p i x with
   | true=>rfl
   | false=>exact ih (i+1)
 exact this l 0
def Zjv {γ:Type} (p:Nat->γ->Bool):Nat->List γ->Bool
 | _,[]=>false
 | i,x :: l=>p i x || Zjv p (i+1) l
theorem Zmh {γ:Type} (p:γ->Bool):∀(l:List γ) (i:Nat),Zjv (fun _=>p) i l=l.any p
 | [],_=>rfl
 | x :: l,i=>by rw[Zjv,List.any_cons,Zmh p l]
theorem Zfy {γ R:Type} (p:Nat->γ->Bool) (c fin:R):∀(l:List γ) (i:Nat),Zhx p (fun _ _=>c) fin i l=bif Zjv p i l then c else fin
 | [],_=>rfl
 | x :: l,i=>by
  unfold Zhx Zjv
  rw[Zfy p c fin l (i+1)]
  cases p i x<;>rfl
theorem ZmQ {γ R:Type} (p:γ->Bool) (fin:R):∀(l:List γ) (i:Nat),(∃j:Nat,Zhx (fun _=>p) (fun i _=>(Sum.inl (i:Int):Int⊕R)) (.inr fin) i l = .inl (j:Int)/\l.any p=true)∨(Zhx (fun _=>p) (fun i _=>(Sum.inl (i:Int):Int⊕R)) (.inr fin) i l = .inr fin/\l.any p=false)
 | [],_=>.inr ⟨rfl,rfl⟩
 | x :: l,i=>by
  unfold Zhx
  rw[List.any_cons]
  cases h:p x with
  | true=>exact .inl ⟨i,rfl,rfl⟩
  | false=>simpa using ZmQ p fin l (i+1)
theorem Zp5 {γ:Type} (p:Nat->γ->Bool):∀(l:List γ) (i:Nat),Zjv p i l=true↔∃j x,l[j]? = some x/\p (i+j) x=true
 | [],i=>by simp[Zjv]
 | x :: l,i=>by
  rw[Zjv,Bool.or_eq_true,Zp5 p l (i+1)]
  constructor
  ·rintro (h | ⟨j,y,hj,hp⟩)
   ·exact⟨0,x,rfl,h⟩
   ·exact⟨j+1,y,by simpa using hj,by rw[show i+(j+1)=i+1+j by omega];exact hp⟩
  ·rintro ⟨j,y,hj,hp⟩
   cases j with
   | zero=>left;simp at hj;subst hj;exact hp
   | succ j=>right;exact⟨j,y,by simpa using hj,by rw[show i+1+j=i+(j+1) by omega];exact hp⟩
end Go.Proofs.YtgcfmiajkbbmeaaGreatE
namespace Go.Proofs.YtgcfmiajkbbmeaaGreat
open Go Go.Proofs.YtgcfmiajkbbmeaaGreatE
open Go.IntKind (u64 i64 u32 i32 u8)
def lf (left:List Int) (n:Int):Int:=match left[n.toNat]? with | some x=>x | none=>0
theorem Zin {left:List Int}{n:Int} (h0:0<=n) (h:n.toNat<left.length):left[n.toNat]? = some (lf left n):=by
  unfold lf
  rw[List.getElem?_eq_getElem h]
theorem Znt {left:List Int}{i:Nat}{x:Int} (h:left[i]? = some x):lf left (i:Int)=x:=by
  unfold lf
  rw[Int.toNat_natCast,h]
theorem Zvx {left:List Int}{n v k:Int} (hn:0<=n/\n.toNat<left.length) (hk:0<=k):lf (left.set n.toNat v) k=if k=n then v else lf left k:=by
  unfold lf
  rw[List.getElem?_set]
  by_cases h:n.toNat=k.toNat
  · rw[if_pos h,if_pos hn.2,if_pos (by omega)]
  · rw[if_neg h,if_neg (by omega)]
def isN (left:List Int) (n:Int):Prop:=0<=n/\n.toNat<left.length
def Zhd (E:List Zo) (left:List Int) (n:Int):Prop:=∀e∈E,e.dst=n->lf left e.src=0
def Rdy (E:List Zo) (left on:List Int) (n:Int):Prop:=isN left n/\0<lf left n/\n∉on/\Zhd E left n
def ZkV (row:List Int):Prop:=∀(i j:Nat) (n:Int),row[i]? = some n->row[j]? = some n->n ≠ -1->i=j
structure Zdy (E:List Zo) (left on:List Int):Prop where
  rng:∀x∈left,0<=x/\x<=1000
  run:∀n∈on,n = -1∨(isN left n/\0<lf left n/\Zhd E left n)
  one:ZkV on
  over:∀n,isN left n->lf left n=0->Zhd E left n
structure ZfK (E:List Zo) (left on row:List Int):Prop where
  len:row.length=on.length
  keep:∀(c:Nat) (n:Int),on[c]? = some n->n ≠ -1->row[c]? = some n
  new:∀(c:Nat) (n:Int),on[c]? = some (-1)->row[c]? = some n->n = -1∨Rdy E left on n
  one:ZkV row
  all : -1∈row->∀n,¬Rdy E left row n
def dec (left:List Int) (n:Int):List Int:=if n = -1 then left else left.set n.toNat (lf left n-1)
def ZD (left row:List Int):List Int:=row.foldl dec left
def ZJ (left row:List Int):List Int:=row.map fun n=>if n = -1 then -1 else if lf (ZD left row) n=0 then -1 else n
theorem ZlU (left:List Int) (n:Int):(dec left n).length=left.length:=by unfold dec;split<;>simp
theorem Zci:∀(row left:List Int),(ZD left row).length=left.length
  | [],_=>rfl
  | n :: row,left=>by
    show(ZD (dec left n) row).length=_
    rw[Zci row,ZlU]
theorem ZkV.tail {n:Int}{row:List Int} (h:ZkV (n :: row)):ZkV row/\(n ≠ -1->n∉row):=by
  refine⟨fun i j k h1 h2 h3=>?_,fun hn hm=>?_⟩
  · have:=h (i+1) (j+1) k h1 h2 h3
    omega
  · obtain⟨i,hi⟩:=List.getElem?_of_mem hm
    have:=h 0 (i+1) n rfl hi hn
    omega
theorem Ziq:∀(row left:List Int),ZkV row->(∀n∈row,n = -1∨isN left n)->∀k,0<=k->lf (ZD left row) k=if k∈row then lf left k-1 else lf left k
  | [],left,_,_,k,_=>by simp[ZD]
  | n :: row,left,ho,hr,k,hk=>by
    obtain⟨ho1,ho2⟩:=ho.tail
    have ih:=Ziq row (dec left n) ho1 (fun m hm=>by
      rcases hr m (by simp[hm]) with h | h
      · exact .inl h
      · exact .inr ⟨h.1,by rw[ZlU];exact h.2⟩) k hk
    show lf (ZD (dec left n) row) k=_
    rw[ih]
    by_cases hn:n = -1
    · have e:dec left n=left:=by unfold dec;rw[if_pos hn]
      rw[e]
      have:(k∈n :: row)=(k∈row):=by
        rw[List.mem_cons]
        exact propext ⟨fun h => by rcases h with h | h; · omega
                                   · exact h,.inr⟩
      simp only[this]
    · have hin:isN left n:=by
        rcases hr n (by simp) with h | h
        · exact absurd h hn
        · exact h
      have e:lf (dec left n) k=if k=n then lf left n-1 else lf left k:=by
        unfold dec
        rw[if_neg hn]
        exact Zvx hin hk
      rw[e]
      by_cases hkn:k=n
      · subst hkn
        rw[if_neg (ho2 hn),if_pos rfl,if_pos (by simp)]
      · rw[if_neg hkn]
        have:(k∈n :: row)=(k∈row):=by
          rw[List.mem_cons]
          exact propext ⟨fun h => by rcases h with h | h; · exact absurd h hkn
                                     · exact h,.inr⟩
        simp only[this]
def busy (row:List Int):Nat:=row.countP fun n=>n != -1
theorem Zw7 {l:List Int}{i:Nat}{x v:Int} (h:l[i]? = some x):(l.set i v).sum=l.sum-x+v:=by
  induction l generalizing i with
  | nil=>cases h
  | cons a l ih=>
    cases i with
    | zero=>
      have:a=x:=Option.some.inj h
      subst this
      simp only[List.set_cons_zero,List.sum_cons]
      omega
    | succ i=>
      have h:l[i]? = some x:=h
      simp only[List.set_cons_succ,List.sum_cons,ih h]
      omega
theorem ZoK:∀(row left:List Int),(∀n∈row,n = -1∨isN left n)->(ZD left row).sum=left.sum-(busy row:Int)
  | [],left,_=>by simp[ZD,busy]
  | n :: row,left,hr=>by
    have ih:=ZoK row (dec left n) (fun m hm=>by
      rcases hr m (by simp[hm]) with h | h
      · exact .inl h
      · exact .inr ⟨h.1,by rw[ZlU];exact h.2⟩)
    show(ZD (dec left n) row).sum=_
    rw[ih]
    unfold busy
    by_cases hn:n = -1
    · rw[List.countP_cons_of_neg (by simp[hn])]
      unfold dec
      rw[if_pos hn]
    · have hin:isN left n:=by
        rcases hr n (by simp) with h | h
        · exact absurd h hn
        · exact h
      rw[List.countP_cons_of_pos (by simp[hn])]
      unfold dec
      rw[if_neg hn,Zw7 (Zin hin.1 hin.2)]
      omega
theorem ZfK.row_in {E:List Zo}{left on row:List Int} (f:ZfK E left on row) (c:Zdy E left on):∀n∈row,n = -1∨(isN left n/\0<lf left n/\Zhd E left n):=fun n hn=>by
  obtain⟨i,hi⟩:=List.getElem?_of_mem hn
  have hl:i<on.length:=by rw[<- f.len];exact(List.getElem?_eq_some_iff.1 hi).1
  have ho:=List.getElem?_eq_getElem hl
  by_cases h:on[i] = -1
  · rw[h] at ho
    rcases f.new i n ho hi with h1 | ⟨h1,h2,_,h4⟩
    · exact .inl h1
    · exact .inr ⟨h1,h2,h4⟩
  · have:=f.keep i _ ho h
    rw[hi] at this
    have:=Option.some.inj this
    rw[this]
    exact c.run _ (List.getElem_mem hl)
theorem ZfK.nodes {E:List Zo}{left on row:List Int} (f:ZfK E left on row) (c:Zdy E left on):∀n∈row,n = -1∨isN left n:=fun n hn=>by
  rcases f.row_in c n hn with h | h
  · exact .inl h
  · exact .inr h.1
theorem ZuX {E:List Zo}{left on:List Int} (c:Zdy E left on) (n:Int):0<=lf left n/\lf left n<=1000:=by
  unfold lf
  cases h:left[n.toNat]? with
  | none=>simp
  | some x=>exact c.rng x (List.mem_of_getElem? h)
theorem ZfK.tick_lf {E:List Zo}{left on row:List Int} (f:ZfK E left on row) (c:Zdy E left on) {k:Int} (hk:0<=k):lf (ZD left row) k=if k∈row then lf left k-1 else lf left k:=Ziq row left f.one (f.nodes c) k hk
def Zes (E:List Zo) (n:Nat):Prop:=∀e∈E,(0<=e.src/\e.src.toNat<n)/\(0<=e.dst/\e.dst.toNat<n)
theorem ZfK.free {E:List Zo}{left on row:List Int} (hE:Zes E left.length) (f:ZfK E left on row) (c:Zdy E left on) {n:Int} (h:Zhd E left n):Zhd E (ZD left row) n:=fun e he hd=>by
  have h1:=h e he hd
  have h0:=(hE e he).1
  rw[f.tick_lf c h0.1]
  split
  · rename_i hm
    rcases f.row_in c _ hm with h2 | ⟨_,h2,_⟩
    · omega
    · omega
  · exact h1
theorem ZfK.next {E:List Zo}{left on row:List Int} (hE:Zes E left.length) (f:ZfK E left on row) (c:Zdy E left on):Zdy E (ZD left row) (ZJ left row):=by
  have hl:=Zci row left
  refine⟨fun x hx=>?_,fun n hn=>?_,fun i j n h1 h2 h3=>?_,fun n hn h0=>?_⟩
  · obtain⟨i,hi⟩:=List.getElem?_of_mem hx
    have e:=Znt hi
    rw[<- e,f.tick_lf c (by omega)]
    have:=ZuX c (i:Int)
    split
    · rename_i hm
      rcases f.row_in c _ hm with h2 | ⟨_,h2,_⟩
      · omega
      · omega
    · exact this
  · unfold ZJ at hn
    obtain⟨k,hk,rfl⟩:=List.mem_map.1 hn
    by_cases h1:k = -1
    · rw[if_pos h1];exact .inl rfl
    · rw[if_neg h1]
      by_cases h2:lf (ZD left row) k=0
      · rw[if_pos h2];exact .inl rfl
      · rw[if_neg h2]
        rcases f.row_in c k hk with h3 | ⟨h3,h4,h5⟩
        · exact absurd h3 h1
        · refine .inr ⟨⟨h3.1,by rw[hl];exact h3.2⟩,?_,f.free hE c h5⟩
          rw[f.tick_lf c h3.1,if_pos hk] at h2 ⊢
          omega
  · have back:∀i:Nat,(ZJ left row)[i]? = some n->row[i]? = some n:=fun i h=>by
      unfold ZJ at h
      rw[List.getElem?_map] at h
      cases hr:row[i]? with
      | none=>rw[hr] at h;cases h
      | some k=>
        rw[hr] at h
        have h:(if k = -1 then (-1:Int) else if lf (ZD left row) k=0 then -1 else k)=n:=Option.some.inj h
        by_cases h1:k = -1
        · rw[if_pos h1] at h;exact absurd h.symm h3
        · rw[if_neg h1] at h
          by_cases h2:lf (ZD left row) k=0
          · rw[if_pos h2] at h;exact absurd h.symm h3
          · rw[if_neg h2] at h;rw[h]
    exact f.one i j n (back i h1) (back j h2) h3
  · have hn':isN left n:=⟨hn.1,by rw[<- hl];exact hn.2⟩
    rw[f.tick_lf c hn.1] at h0
    by_cases hm:n∈row
    · rcases f.row_in c n hm with h2 | ⟨_,_,h2⟩
      · have:=hn.1;omega
      · exact f.free hE c h2
    · rw[if_neg hm] at h0
      exact f.free hE c (c.over n hn' h0)
inductive Sched (E:List Zo) (need:List Int) (m:Nat):List (List Int)->List Int->List Int->Prop
  | nil:Sched E need m [] need (List.replicate m (-1))
  | snoc {t:List (List Int)} {left on row:List Int}:Sched E need m t left on->(∃n,isN left n/\0<lf left n)->ZfK E left on row->Sched E need m (t++[row]) (ZD left row) (ZJ left row)
theorem Zuf {E:List Zo}{need:List Int} (m:Nat) (h:∀x∈need,1<=x/\x<=1000):Zdy E need (List.replicate m (-1)):=by
  refine⟨fun x hx=>by have:=h x hx;omega,fun n hn=>.inl (List.mem_replicate.1 hn).2,fun i j n h1 h2 h3=>?_,fun n hn h0=>?_⟩
  · have:=List.mem_of_getElem? h1
    exact absurd (List.mem_replicate.1 this).2 h3
  · have:=h _ (List.mem_of_getElem? (Zin hn.1 hn.2))
    omega
theorem Sched.len {E:List Zo}{need:List Int}{m:Nat}{t:List (List Int)}{left on:List Int} (s:Sched E need m t left on):left.length=need.length/\on.length=m/\∀row∈t,row.length=m:=by
  induction s with
  | nil=>exact⟨rfl,by simp,fun _ h=>by cases h⟩
  | snoc _ _ f ih=>
    refine⟨by rw[Zci];exact ih.1,by unfold ZJ;rw[List.length_map,f.len];exact ih.2.1,fun r hr=>?_⟩
    rcases List.mem_append.1 hr with h | h
    · exact ih.2.2 r h
    · rw[List.mem_singleton] at h
      rw[h,f.len]
      exact ih.2.1
theorem Sched.crew {E:List Zo}{need:List Int}{m:Nat} (h:∀x∈need,1<=x/\x<=1000) (hE:Zes E need.length) {t:List (List Int)}{left on:List Int} (s:Sched E need m t left on):Zdy E left on:=by
  induction s with
  | nil=>exact Zuf m h
  | snoc s _ f ih=>exact f.next (by rw[s.len.1];exact hE) ih
def ZcT (t:List (List Int)):Nat:=(t.map busy).sum
theorem Sched.sum {E:List Zo}{need:List Int}{m:Nat} (h:∀x∈need,1<=x/\x<=1000) (hE:Zes E need.length) {t:List (List Int)}{left on:List Int} (s:Sched E need m t left on):left.sum=need.sum-(ZcT t:Int):=by
  induction s with
  | nil=>simp[ZcT]
  | snoc s _ f ih=>
    rw[ZoK _ _ (f.nodes (s.crew h hE)),ih]
    unfold ZcT
    rw[List.map_append,List.sum_append]
    simp
    omega
noncomputable section
structure Zm where
 work:(List Int)
 edges:(List Zo)
 deriving DecidableEq
abbrev ZA0 (x:Zm):D:=(D.agg [(D.list true (List.map Zq x.work)),(D.list true (List.map ZbC x.edges))])
structure Zz where
 on:(List Int)
 left:(List Int)
 deriving DecidableEq
structure Za where
 ring:(List Int)
 top:Int
 bottom:Int
 deriving DecidableEq
abbrev Zt (x:Za):D:=(D.agg [(D.list true (List.map Zq x.ring)),(Zq x.top),(Zq x.bottom)])
structure Ze where
 steal:Bool
 at_:Int
 top:Int
 bottom:Int
 got:Int
 end_:Int
 deriving DecidableEq
abbrev Zv (x:Ze):D:=(D.agg [(D.bool x.steal),(Zq x.at_),(Zq x.top),(Zq x.bottom),(Zq x.got),(Zq x.end_)])
structure Zx where
 crew:Zz
 deques:(List Za)
 takers:(List Ze)
 from_:(List Int)
 deriving DecidableEq
structure ZK where
 stealing:Bool
 demand:(List Int)
 state:Int
 gang:Zx
 deriving DecidableEq
abbrev Zzm (x:ZK):D:=(D.agg [(D.bool x.stealing),(D.list true (List.map Zq x.demand)),(Zq x.state),(D.list true (List.map Zq x.gang.crew.on)),(D.list true (List.map Zq x.gang.crew.left)),(D.list true (List.map Zt x.gang.deques)),(D.list true (List.map Zv x.gang.takers)),(D.list true (List.map Zq x.gang.from_))])
structure ZT where
 on:(List Int)
 done:(List Int)
 steps:Int
 deriving DecidableEq
structure ZhC where
 deriving DecidableEq
structure ZlH where
 deriving DecidableEq
def ZcQ:Option Bool:=some true
def ZfT (a:Zm):Option Bool:=
 bif (decide ((a.work.length:Int)<=70)) then
  bif (decide ((a.edges.length:Int)<=300)) then
   some true
  else
   some false
 else
  some false
def ZaD (a:Zx) (s0:Int):Option (Int⊕(Unit⊕Unit)):=
 bif (decide (s0<(a.deques.length:Int))) then
  bif (decide (s0<13)) then
   (ZG a.deques s0).bind fun x1=>
   bif (decide (130<(x1.ring.length:Int))) then
    some (.inr (.inl ()))
   else
    some (.inl (w64 (s0+1)))
  else
   some (.inr (.inr ()))
 else
  some (.inr (.inr ()))
def ZfU (a:Zx):Option Bool:=
 (lp (ZaD a) 0).bind fun r2=>
 match r2 with
 | (.inl r2)=>
  some false
 | (.inr r2)=>
  bif (decide ((a.crew.on.length:Int)<=12)) then
   bif (decide ((a.crew.left.length:Int)<=70)) then
    bif (decide ((a.deques.length:Int)<=12)) then
     bif (decide ((a.takers.length:Int)<=12)) then
      bif (decide ((a.from_.length:Int)<=12)) then
       some true
      else
       some false
     else
      some false
    else
     some false
   else
    some false
  else
   some false
def ZfX (a:Zm) (b:ZK):Option Bool:=
 (ZfT a).bind fun x0=>
 bif x0 then
  (ZfU b.gang).bind fun x1=>
  bif x1 then
   bif (decide ((b.demand.length:Int)<=70)) then
    some true
   else
    some false
  else
   some false
 else
  some false
def Zex (a:Zm):Option Unit:=
 bif (Nat.ble (List.length a.work) lim) then
  bif (Nat.ble (List.length a.edges) lim) then
   some ()
  else
   none
 else
  none
def ZhU (a:Zz):Option Unit:=
 bif (Nat.ble (List.length a.on) lim) then
  bif (Nat.ble (List.length a.left) lim) then
   some ()
  else
   none
 else
  none
def Zh0 (a:Za):Option Za:=
 bif (Nat.ble (List.length a.ring) lim) then
  some a
 else
  none
def Zch (a:Zx) (s1:Int×(List Za)):Option ((Int×(List Za))⊕(List Za)):=
 bif (decide (s1.1<(a.deques.length:Int))) then
  (ZG a.deques s1.1).bind fun x2=>
  (Zh0 x2).bind fun x3=>
  bif (Nat.ble (List.length s1.2+1) lim) then
   some (.inl ((w64 (s1.1+1)),(s1.2++[x3])))
  else
   none
 else
  some (.inr s1.2)
def Zf3 (a:Zx):Option (List Za):=
 (ZhU a.crew).bind fun x0=>
 bif (Nat.ble (List.length a.takers) lim) then
  bif (Nat.ble (List.length a.from_) lim) then
   (lp (Zch a) (0,([]:List Za))).bind fun r4=>
   some r4
  else
   none
 else
  none
def ZeK (a:ZK):Option (List Za):=
 bif (Nat.ble (List.length a.demand) lim) then
  (Zf3 a.gang).bind fun x0=>
  some x0
 else
  none
def Ze8 (a:List Int):Option Unit:=
 bif (Nat.ble (List.length a) lim) then
  some ()
 else
  none
def Zbn (a:Int):Option Bool:=
 bif (decide (a<0)) then
  some true
 else
  bif (decide (1000<a)) then
   some true
  else
   some false
def Zs (a:List Int) (b:(Int->Option Bool)) (s0:Int):Option (Int⊕(Int⊕Unit)):=
 bif (decide (s0<(a.length:Int))) then
  (ZG a s0).bind fun x1=>
  (b x1).bind fun x2=>
  bif x2 then
   some (.inr (.inl s0))
  else
   some (.inl (w64 (s0+1)))
 else
  some (.inr (.inr ()))
def ZB (a:List Int) (b:(Int->Option Bool)):Option Int:=
 (lp (Zs a b) 0).bind fun r3=>
 match r3 with
 | (.inl r3)=>
  some r3
 | (.inr r3)=>
  some (-1)
def Zw (a:List Int) (b:(Int->Option Bool)):Option Bool:=
 (ZB a b).bind fun x0=>
 bif (decide (0<=x0)) then
  some true
 else
  some false
def Zdp (a:Int) (b0:List Int):Option Bool:=
 bif (decide (0<=a)) then
  bif (decide (a<(b0.length:Int))) then
   some true
  else
   some false
 else
  some false
def Zag (a:List Zo) (b:Zo) (s0:Int):Option (Int⊕(Int⊕Unit)):=
 bif (decide (s0<(a.length:Int))) then
  (ZG a s0).bind fun x1=>
  bif ((b.src==x1.src)&&((b.dst==x1.dst)&&true)) then
   some (.inr (.inl s0))
  else
   some (.inl (w64 (s0+1)))
 else
  some (.inr (.inr ()))
def Zbp (a:List Zo) (b:Zo):Option Int:=
 (lp (Zag a b) 0).bind fun r2=>
 match r2 with
 | (.inl r2)=>
  some r2
 | (.inr r2)=>
  some (-1)
def Zak (a:List Zo) (b:Zo):Option Bool:=
 (Zbp a b).bind fun x0=>
 bif (decide (0<=x0)) then
  some true
 else
  some false
def Zc9 (a:Zm) (s0:(List Int)×(List Bool)) (s1:Int) (s3:Int):Option (Int⊕(Unit⊕Unit)):=
 bif (decide (s3<(a.edges.length:Int))) then
  (ZG a.edges s3).bind fun x4=>
  bif (x4.dst==s1) then
   (ZG s0.2 x4.src).bind fun x5=>
   bif x5 then
    some (.inl (w64 (s3+1)))
   else
    some (.inr (.inl ()))
  else
   some (.inl (w64 (s3+1)))
 else
  some (.inr (.inr ()))
def Zcc (a:Zm) (s0:(List Int)×(List Bool)) (s1:Int):Option (Int⊕(((List Int)×(List Bool))⊕Unit)):=
 bif (decide (s1<(a.work.length:Int))) then
  (ZG s0.2 s1).bind fun x2=>
  bif x2 then
   some (.inl (w64 (s1+1)))
  else
   (lp (Zc9 a s0 s1) 0).bind fun r6=>
   match r6 with
   | (.inl r6)=>
    some (.inl (w64 (s1+1)))
   | (.inr r6)=>
    bif (Nat.ble (List.length s0.1+1) lim) then
     some (.inr (.inl ((s0.1++[s1]),(List.set s0.2 s1.toNat true))))
    else
     none
 else
  some (.inr (.inr ()))
def Zda (a:Zm) (s0:(List Int)×(List Bool)):Option (((List Int)×(List Bool))⊕((List Int)⊕(List Int))):=
 bif (decide ((s0.1.length:Int)<(a.work.length:Int))) then
  (lp (Zcc a s0) 0).bind fun r7=>
  match r7 with
  | (.inl r7)=>
   some (.inl (r7.1,r7.2))
  | (.inr r7)=>
   some (.inr (.inl s0.1))
 else
  some (.inr (.inr s0.1))
def ZdA (a:Zm):Option ((List Int)×Bool):=
 bif (decide (0<=(a.work.length:Int))&&decide ((a.work.length:Int)<=lim)&&decide ((a.work.length:Int)==(a.work.length:Int))) then
  (lp (Zda a) (([]:List Int),(List.replicate (a.work.length:Int).toNat (false:Bool)))).bind fun r8=>
  match r8 with
  | (.inl r8)=>
   some (([]:List Int),false)
  | (.inr r8)=>
   some (r8,true)
 else
  none
def Zcq (a:Zm) (s1:Int):Option (Int⊕(Unit⊕Unit)):=
 bif (decide (s1<(a.edges.length:Int))) then
  (ZG a.edges s1).bind fun x2=>
  (Zdp x2.src a.work).bind fun x3=>
  bif x3 then
   (Zdp x2.dst a.work).bind fun x4=>
   bif x4 then
    bif (x2.src==x2.dst) then
     some (.inr (.inl ()))
    else
     bif (decide (0<=s1)) then
      bif (Nat.ble s1.toNat (List.length a.edges)) then
       (Zak (List.take s1.toNat a.edges) x2).bind fun x5=>
       bif x5 then
        some (.inr (.inl ()))
       else
        some (.inl (w64 (s1+1)))
      else
       none
     else
      none
   else
    some (.inr (.inl ()))
  else
   some (.inr (.inl ()))
 else
  some (.inr (.inr ()))
def ZdD (a:Zm):Option Int:=
 bif (decide (64<(a.work.length:Int))) then
  some 40
 else
  bif (decide (256<(a.edges.length:Int))) then
   some 40
  else
   (Zw a.work (fun z0=>Zbn z0)).bind fun x0=>
   bif x0 then
    some 41
   else
    (lp (Zcq a) 0).bind fun r6=>
    match r6 with
    | (.inl r6)=>
     some 42
    | (.inr r6)=>
     (ZdA a).bind fun x7=>
     bif x7.2 then
      some 0
     else
      some 43
def Za7 (a:Int):Option Bool:=
 bif (decide (a<1)) then
  some true
 else
  bif (decide (1000<a)) then
   some true
  else
   some false
def Zfi (a:Zm) (b:List Int):Option Bool:=
 bif ((b.length:Int)==(a.work.length:Int)) then
  (Zw b (fun z0=>Za7 z0)).bind fun x0=>
  bif x0 then
   some false
  else
   (Zw a.work (fun z0=>Za7 z0)).bind fun x1=>
   bif x1 then
    some false
   else
    some true
 else
  some false
def ZdF (a:Bool):Option (Unit⊕Unit):=
 bif a then
  some (.inl ())
 else
  some (.inr ())
def Zbq (a:Int):Option Bool:=
 bif (decide (a<0)) then
  some true
 else
  bif (decide (1000<a)) then
   some true
  else
   some false
def Zcv (a:Zz) (b:Int):Option Bool:=
 (ZG a.left b).bind fun x0=>
 bif (x0==0) then
  some true
 else
  some false
def Zax (a:List Int) (b:Int) (s0:Int):Option (Int⊕(Int⊕Unit)):=
 bif (decide (s0<(a.length:Int))) then
  (ZG a s0).bind fun x1=>
  bif (b==x1) then
   some (.inr (.inl s0))
  else
   some (.inl (w64 (s0+1)))
 else
  some (.inr (.inr ()))
def Zb6 (a:List Int) (b:Int):Option Int:=
 (lp (Zax a b) 0).bind fun r2=>
 match r2 with
 | (.inl r2)=>
  some r2
 | (.inr r2)=>
  some (-1)
def ZI (a:List Int) (b:Int):Option Bool:=
 (Zb6 a b).bind fun x0=>
 bif (decide (0<=x0)) then
  some true
 else
  some false
def ZcN (a:Zo) (b0:Int) (c0:List Int) (c1:List Int):Option Bool:=
 bif (a.dst==b0) then
  (Zcv (Zz.mk c0 c1) a.src).bind fun x0=>
  bif x0 then
   some false
  else
   some true
 else
  some false
def Z5 (a:List Zo) (b:(Zo->Option Bool)) (s0:Int):Option (Int⊕(Int⊕Unit)):=
 bif (decide (s0<(a.length:Int))) then
  (ZG a s0).bind fun x1=>
  (b x1).bind fun x2=>
  bif x2 then
   some (.inr (.inl s0))
  else
   some (.inl (w64 (s0+1)))
 else
  some (.inr (.inr ()))
def ZaZ (a:List Zo) (b:(Zo->Option Bool)):Option Int:=
 (lp (Z5 a b) 0).bind fun r3=>
 match r3 with
 | (.inl r3)=>
  some r3
 | (.inr r3)=>
  some (-1)
def Z4 (a:List Zo) (b:(Zo->Option Bool)):Option Bool:=
 (ZaZ a b).bind fun x0=>
 bif (decide (0<=x0)) then
  some true
 else
  some false
def ZdC (a:Zm) (b:Zz) (c:Int):Option Bool:=
 (Z4 a.edges (fun z0=>ZcN z0 c b.on b.left)).bind fun x0=>
 bif x0 then
  some false
 else
  some true
def ZaI (a:Zm) (b:Zz) (s1:Int):Option (Int⊕(Unit⊕Unit)):=
 bif (decide (s1<(b.on.length:Int))) then
  (ZG b.on s1).bind fun x2=>
  bif (x2==(-1)) then
   some (.inl (w64 (s1+1)))
  else
   bif (decide (x2<0)) then
    some (.inr (.inl ()))
   else
    bif (decide ((b.left.length:Int)<=x2)) then
     some (.inr (.inl ()))
    else
     (Zcv b x2).bind fun x3=>
     bif x3 then
      some (.inr (.inl ()))
     else
      bif (decide (0<=s1)) then
       bif (Nat.ble s1.toNat (List.length b.on)) then
        (ZI (List.take s1.toNat b.on) x2).bind fun x4=>
        bif x4 then
         some (.inr (.inl ()))
        else
         (ZdC a b x2).bind fun x5=>
         bif x5 then
          some (.inl (w64 (s1+1)))
         else
          some (.inr (.inl ()))
       else
        none
      else
       none
 else
  some (.inr (.inr ()))
def ZaK (a:Zm) (b:Zz) (s7:Int):Option (Int⊕(Unit⊕Unit)):=
 bif (decide (s7<(b.left.length:Int))) then
  (Zcv b s7).bind fun x8=>
  bif x8 then
   (ZdC a b s7).bind fun x9=>
   bif x9 then
    some (.inl (w64 (s7+1)))
   else
    some (.inr (.inl ()))
  else
   some (.inl (w64 (s7+1)))
 else
  some (.inr (.inr ()))
def ZcA (a:Zm) (b:Zz):Option Bool:=
 bif (decide ((b.on.length:Int)<1)) then
  some false
 else
  bif (decide (8<(b.on.length:Int))) then
   some false
  else
   bif ((b.left.length:Int) != (a.work.length:Int)) then
    some false
   else
    (Zw b.left (fun z0=>Zbq z0)).bind fun x0=>
    bif x0 then
     some false
    else
     (lp (ZaI a b) 0).bind fun r6=>
     match r6 with
     | (.inl r6)=>
      some false
     | (.inr r6)=>
      (lp (ZaK a b) 0).bind fun r10=>
      match r10 with
      | (.inl r10)=>
       some false
      | (.inr r10)=>
       some true
def ZaF (a:Zm) (b:Zz):Option Int:=
 (ZdD a).bind fun x0=>
 bif (x0==0) then
  (ZcA a b).bind fun x1=>
  bif x1 then
   some x0
  else
   some 110
 else
  some x0
def Zev (a:Int):Option Int:=
 bif (decide (a<0)) then
  some 10
 else
  bif (decide (1099511627775<a)) then
   some 11
  else
   some 0
abbrev oc0 (a:Int):Int:=(u64.wrap (ZhN a &&& ZhN 6148914691236517205).toNat)
abbrev oc1 (a:Int):Int:=(u64.wrap (ZhN (Int.fdiv a (2 ^ 1)) &&& ZhN 6148914691236517205).toNat)
abbrev oc2 (a:Int):Int:=(u64.wrap ((oc1 a)+(oc0 a)))
abbrev oc3 (a:Int):Int:=(Int.fdiv (oc2 a) (2 ^ 2))
abbrev oc4 (a:Int):Int:=(u64.wrap (ZhN (oc3 a) &&& ZhN 3689348814741910323).toNat)
abbrev oc5 (a:Int):Int:=(u64.wrap (ZhN (oc2 a) &&& ZhN 3689348814741910323).toNat)
abbrev oc6 (a:Int):Int:=(u64.wrap ((oc4 a)+(oc5 a)))
abbrev oc7 (a:Int):Int:=(Int.fdiv (oc6 a) (2 ^ 4))
abbrev oc8 (a:Int):Int:=(u64.wrap ((oc7 a)+(oc6 a)))
abbrev oc9 (a:Int):Int:=(u64.wrap (ZhN (oc8 a) &&& ZhN 1085102592571150095).toNat)
abbrev ZBQ (a:Int):Int:=(Int.fdiv (oc9 a) (2 ^ 8))
abbrev ZAh (a:Int):Int:=(u64.wrap ((oc9 a)+(ZBQ a)))
abbrev ZBB (a:Int):Int:=(Int.fdiv (ZAh a) (2 ^ 16))
abbrev ZzV (a:Int):Int:=(u64.wrap ((ZAh a)+(ZBB a)))
def Za9 (a:Int):Option Int:=
 some (i64.wrap (Zxq (w64 (u64.wrap ((ZzV a)+(Int.fdiv (ZzV a) (2 ^ 32))))) &&& Zxq 127).toNat)
def Zbw (a:Int):Option Int:=
 (Za9 a).bind fun x0=>
 some x0
def Zbi (a:Int):Option Unit:=
 bif (a==0) then
  some ()
 else
  some ()
def ZaO (a:Int):Option Unit:=
 (Zbi a).bind fun x0=>
 some ()
def ZgB (a:Int):Option (Unit⊕Unit):=
 (Zev a).bind fun x0=>
 bif (x0 != 0) then
  some (.inl ())
 else
  (Zbw (u64.wrap a)).bind fun x1=>
  bif (x1 != 1) then
   some (.inl ())
  else
   (ZaO (u64.wrap a)).bind fun x2=>
   some (.inr ())
def Z6 (a:Za):Option Int:=
 (ZgB (a.ring.length:Int)).bind fun x0=>
 match x0 with
 | (.inl x0)=>
  some 120
 | (.inr x0)=>
  bif (decide (64<(a.ring.length:Int))) then
   some 120
  else
   (Zev a.top).bind fun x1=>
   bif (x1 != 0) then
    some 120
   else
    bif (decide (a.bottom<(w64 (a.top-1)))) then
     some 120
    else
     bif (decide ((w64 (a.top+(a.ring.length:Int)))<a.bottom)) then
      some 120
     else
      some 0
def Zas (a:Zx) (s0:Int):Option (Int⊕(Unit⊕Unit)):=
 bif (decide (s0<(a.deques.length:Int))) then
  (ZG a.deques s0).bind fun x1=>
  (ZG a.takers s0).bind fun x2=>
  (ZG a.from_ s0).bind fun x3=>
  (Z6 x1).bind fun x4=>
  bif (x4 != 0) then
   some (.inr (.inl ()))
  else
   bif ((x1.ring.length:Int) != 64) then
    some (.inr (.inl ()))
   else
    bif (x2.end_ != 0) then
     some (.inr (.inl ()))
    else
     bif (decide (x3<0)) then
      some (.inr (.inl ()))
     else
      bif (decide ((a.crew.on.length:Int)<=x3)) then
       some (.inr (.inl ()))
      else
       bif x2.steal then
        bif (x3 != 0) then
         (ZG a.crew.on s0).bind fun x5=>
         bif (x5 != (-1)) then
          bif (!((x2.steal==false)&&((x2.at_==0)&&((x2.top==0)&&((x2.bottom==0)&&((x2.got==0)&&((x2.end_==0)&&true))))))) then
           some (.inr (.inl ()))
          else
           bif (x3 != 0) then
            some (.inr (.inl ()))
           else
            some (.inl (w64 (s0+1)))
         else
          some (.inl (w64 (s0+1)))
        else
         some (.inr (.inl ()))
       else
        bif (x3 != 0) then
         some (.inr (.inl ()))
        else
         (ZG a.crew.on s0).bind fun x6=>
         bif (x6 != (-1)) then
          bif (!((x2.steal==false)&&((x2.at_==0)&&((x2.top==0)&&((x2.bottom==0)&&((x2.got==0)&&((x2.end_==0)&&true))))))) then
           some (.inr (.inl ()))
          else
           bif (x3 != 0) then
            some (.inr (.inl ()))
           else
            some (.inl (w64 (s0+1)))
         else
          some (.inl (w64 (s0+1)))
 else
  some (.inr (.inr ()))
def Zb1 (a:Zx):Option Bool:=
 bif ((a.deques.length:Int) != (a.crew.on.length:Int)) then
  some false
 else
  bif ((a.takers.length:Int) != (a.crew.on.length:Int)) then
   some false
  else
   bif ((a.from_.length:Int) != (a.crew.on.length:Int)) then
    some false
   else
    (lp (Zas a) 0).bind fun r7=>
    match r7 with
    | (.inl r7)=>
     some false
    | (.inr r7)=>
     some true
def Za6 (a:Zm) (b:Zx):Option Int:=
 (ZaF a b.crew).bind fun x0=>
 bif (x0==0) then
  (Zb1 b).bind fun x1=>
  bif x1 then
   some x0
  else
   some 130
 else
  some x0
def ZbN (a:ZhC) (b:Zm) (c:Zx):Option Int:=
 (Za6 b c).bind fun x0=>
 some x0
def Zcf (a:Zm) (b:List Int) (s0:Int×(List Int)):Option ((Int×(List Int))⊕(List Int)):=
 bif (decide (s0.1<(a.work.length:Int))) then
  (ZG a.work s0.1).bind fun x1=>
  (ZG b s0.1).bind fun x2=>
  bif (Nat.ble (List.length s0.2+1) lim) then
   some (.inl ((w64 (s0.1+1)),(s0.2++[(bif decide (x1<x2) then x1 else x2)])))
  else
   none
 else
  some (.inr s0.2)
def Zc0 (a:Zm) (b:List Int):Option (List Int):=
 (lp (Zcf a b) (0,([]:List Int))).bind fun r3=>
 some r3
def ZaJ (a:Zm) (b:List Int) (c:List Int) (s0:Int×Int):Option ((Int×Int)⊕(Int⊕Int)):=
 bif (decide (s0.2<(c.length:Int))) then
  (ZG c s0.2).bind fun x1=>
  bif (decide (0<x1)) then
   bif (s0.1==2) then
    some (.inl (1,(w64 (s0.2+1))))
   else
    bif (x1==0) then
     (ZG b s0.2).bind fun x2=>
     (ZG a.work s0.2).bind fun x3=>
     bif (decide (x3<x2)) then
      some (.inr (.inl s0.1))
     else
      some (.inl (s0.1,(w64 (s0.2+1))))
    else
     some (.inl (s0.1,(w64 (s0.2+1))))
  else
   bif (x1==0) then
    (ZG b s0.2).bind fun x4=>
    (ZG a.work s0.2).bind fun x5=>
    bif (decide (x5<x4)) then
     some (.inr (.inl s0.1))
    else
     some (.inl (s0.1,(w64 (s0.2+1))))
   else
    some (.inl (s0.1,(w64 (s0.2+1))))
 else
  some (.inr (.inr s0.1))
def ZaC (a:Zm) (b:List Int) (c:List Int):Option Int:=
 (lp (ZaJ a b c) (2,0)).bind fun r6=>
 match r6 with
 | (.inl r6)=>
  some 3
 | (.inr r6)=>
  some r6
def Zce (a:ZlH) (b:Zm) (c:Zx):Option Int:=
 bif (decide (0<(c.deques.length:Int))) then
  some 190
 else
  bif (decide (0<(c.takers.length:Int))) then
   some 190
  else
   bif (decide (0<(c.from_.length:Int))) then
    some 190
   else
    (ZaF b c.crew).bind fun x0=>
    some x0
def ZaL (b:ZK) (x4:List Int) (s5:Int):Option (Int⊕(Unit⊕Unit)):=
 bif (decide (s5<(x4.length:Int))) then
  (ZG x4 s5).bind fun x6=>
  (ZG b.gang.crew.left s5).bind fun x7=>
  bif (decide (x6<x7)) then
   some (.inr (.inl ()))
  else
   some (.inl (w64 (s5+1)))
 else
  some (.inr (.inr ()))
def Zf4 (b:ZK) (x11:List Int) (s12:Int):Option (Int⊕(Unit⊕Unit)):=
 bif (decide (s12<(x11.length:Int))) then
  (ZG x11 s12).bind fun x13=>
  (ZG b.gang.crew.left s12).bind fun x14=>
  bif (decide (x13<x14)) then
   some (.inr (.inl ()))
  else
   some (.inl (w64 (s12+1)))
 else
  some (.inr (.inr ()))
def Zf9 (b:ZK) (x19:List Int) (s20:Int):Option (Int⊕(Unit⊕Unit)):=
 bif (decide (s20<(x19.length:Int))) then
  (ZG x19 s20).bind fun x21=>
  (ZG b.gang.crew.left s20).bind fun x22=>
  bif (decide (x21<x22)) then
   some (.inr (.inl ()))
  else
   some (.inl (w64 (s20+1)))
 else
  some (.inr (.inr ()))
def Zah (b:ZK) (x26:List Int) (s27:Int):Option (Int⊕(Unit⊕Unit)):=
 bif (decide (s27<(x26.length:Int))) then
  (ZG x26 s27).bind fun x28=>
  (ZG b.gang.crew.left s27).bind fun x29=>
  bif (decide (x28<x29)) then
   some (.inr (.inl ()))
  else
   some (.inl (w64 (s27+1)))
 else
  some (.inr (.inr ()))
def ZbY (a:Zm) (b:ZK):Option Int:=
 (ZdD a).bind fun x0=>
 bif (x0 != 0) then
  some x0
 else
  (Zfi a b.demand).bind fun x1=>
  bif x1 then
   bif b.stealing then
    (ZdF true).bind fun x2=>
    match x2 with
    | (.inl x2)=>
     (ZbN (ZhC.mk ) a b.gang).bind fun x3=>
     bif (x3 != 0) then
      some 190
     else
      (Zc0 a b.demand).bind fun x4=>
      (lp (ZaL b x4) 0).bind fun r8=>
      match r8 with
      | (.inl r8)=>
       some 190
      | (.inr r8)=>
       (ZaC a b.demand b.gang.crew.left).bind fun x9=>
       bif (b.state != x9) then
        some 190
       else
        some 0
    | (.inr x2)=>
     (Zce (ZlH.mk ) a b.gang).bind fun x10=>
     bif (x10 != 0) then
      some 190
     else
      (Zc0 a b.demand).bind fun x11=>
      (lp (Zf4 b x11) 0).bind fun r15=>
      match r15 with
      | (.inl r15)=>
       some 190
      | (.inr r15)=>
       (ZaC a b.demand b.gang.crew.left).bind fun x16=>
       bif (b.state != x16) then
        some 190
       else
        some 0
   else
    (ZdF false).bind fun x17=>
    match x17 with
    | (.inl x17)=>
     (ZbN (ZhC.mk ) a b.gang).bind fun x18=>
     bif (x18 != 0) then
      some 190
     else
      (Zc0 a b.demand).bind fun x19=>
      (lp (Zf9 b x19) 0).bind fun r23=>
      match r23 with
      | (.inl r23)=>
       some 190
      | (.inr r23)=>
       (ZaC a b.demand b.gang.crew.left).bind fun x24=>
       bif (b.state != x24) then
        some 190
       else
        some 0
    | (.inr x17)=>
     (Zce (ZlH.mk ) a b.gang).bind fun x25=>
     bif (x25 != 0) then
      some 190
     else
      (Zc0 a b.demand).bind fun x26=>
      (lp (Zah b x26) 0).bind fun r30=>
      match r30 with
      | (.inl r30)=>
       some 190
      | (.inr r30)=>
       (ZaC a b.demand b.gang.crew.left).bind fun x31=>
       bif (b.state != x31) then
        some 190
       else
        some 0
  else
   some 190
def Zj (a:List Int):Option Unit:=
 bif (Nat.ble (List.length a) lim) then
  some ()
 else
  none
def Zap (a:List Ze):Option Unit:=
 bif (Nat.blt 0 (List.length a)) then
  bif (Nat.ble (List.length a) lim) then
   some ()
  else
   none
 else
  none
def Zan (a:List Za):Option Unit:=
 bif (Nat.blt 0 (List.length a)) then
  bif (Nat.ble (List.length a) lim) then
   some ()
  else
   none
 else
  none
def Zcl (a:Zx) (s5:Int×(List Za)):Option ((Int×(List Za))⊕(List Za)):=
 bif (decide (s5.1<(a.deques.length:Int))) then
  (ZG s5.2 s5.1).bind fun x6=>
  (Zj x6.ring).bind fun x7=>
  some (.inl ((w64 (s5.1+1)),(List.set s5.2 s5.1.toNat x6)))
 else
  some (.inr s5.2)
def ZeA (a:Zx):Option (List Za):=
 (Zj a.crew.on).bind fun x0=>
 (Zj a.crew.left).bind fun x1=>
 (Zap a.takers).bind fun x2=>
 (Zj a.from_).bind fun x3=>
 (Zan a.deques).bind fun x4=>
 (lp (Zcl a) (0,a.deques)).bind fun r8=>
 some r8
def Zaa (a:Za):Option Bool:=
 bif (decide (a.top<a.bottom)) then
  some true
 else
  some false
def Z0 (a:List Za) (b:(Za->Option Bool)) (s0:Int):Option (Int⊕(Int⊕Unit)):=
 bif (decide (s0<(a.length:Int))) then
  (ZG a s0).bind fun x1=>
  (b x1).bind fun x2=>
  bif x2 then
   some (.inr (.inl s0))
  else
   some (.inl (w64 (s0+1)))
 else
  some (.inr (.inr ()))
def Zaz (a:List Za) (b:(Za->Option Bool)):Option Int:=
 (lp (Z0 a b) 0).bind fun r3=>
 match r3 with
 | (.inl r3)=>
  some r3
 | (.inr r3)=>
  some (-1)
def ZY (a:List Za) (b:(Za->Option Bool)):Option Bool:=
 (Zaz a b).bind fun x0=>
 bif (decide (0<=x0)) then
  some true
 else
  some false
def ZaR (a0:List Int) (s1:Int×(List Int)):Option ((Int×(List Int))⊕(List Int)):=
 bif (decide (s1.1<(a0.length:Int))) then
  (ZG a0 s1.1).bind fun x2=>
  bif (x2==(-1)) then
   bif (Nat.ble (List.length s1.2+1) lim) then
    some (.inl ((w64 (s1.1+1)),(s1.2++[s1.1])))
   else
    none
  else
   some (.inl ((w64 (s1.1+1)),s1.2))
 else
  some (.inr s1.2)
def Zav (a0:List Int) (a3:List Ze) (s4:Int×(List Int)):Option ((Int×(List Int))⊕(List Int)):=
 bif (decide (s4.1<(a0.length:Int))) then
  (ZG a0 s4.1).bind fun x5=>
  bif (x5==(-1)) then
   (ZG a3 s4.1).bind fun x6=>
   bif (x6.at_ != 0) then
    bif (Nat.ble (List.length s4.2+1) lim) then
     some (.inl ((w64 (s4.1+1)),(s4.2++[s4.1])))
    else
     none
   else
    some (.inl ((w64 (s4.1+1)),s4.2))
  else
   some (.inl ((w64 (s4.1+1)),s4.2))
 else
  some (.inr s4.2)
def ZaV (a0:List Int) (a2:List Za) (a3:List Ze):Option (List Int):=
 (ZY a2 (fun z0=>Zaa z0)).bind fun x0=>
 bif x0 then
  (lp (ZaR a0) (0,([]:List Int))).bind fun r3=>
  some r3
 else
  (lp (Zav a0 a3) (0,([]:List Int))).bind fun r7=>
  some r7
def Zaf (a:Int) (b7:Int):Option Bool:=
 bif (decide (b7<a)) then
  some true
 else
  some false
def ZbW (a7:Int) (b:List Int) (c:List Int) (d:Int):Option Int:=
 bif (decide (d<(c.length:Int))) then
  (ZG c d).bind fun x0=>
  bif ((b.length:Int)==0) then
   none
  else
   (ZG b (Int.tmod (bif decide (x0<0) then 0 else x0) (b.length:Int))).bind fun x1=>
   some x1
 else
  (ZB b (fun z0=>Zaf z0 a7)).bind fun x2=>
  (ZG b (bif decide (x2<0) then 0 else x2)).bind fun x3=>
  some x3
def Zbt (a:Int):Option Bool:=
 bif (decide (a<(-1))) then
  some true
 else
  bif (decide (1099511627775<a)) then
   some true
  else
   some false
def ZdO (a:Ze):Option Bool:=
 bif a.steal then
  bif (a.end_==0) then
   bif (decide (0<=a.at_)) then
    bif (decide (a.at_<=3)) then
     bif (a.at_==0) then
      some true
     else
      (Zbt a.top).bind fun x0=>
      bif x0 then
       some false
      else
       (Zbt a.bottom).bind fun x1=>
       bif x1 then
        some false
       else
        some true
    else
     some false
   else
    some false
  else
   some false
 else
  bif (a.end_==0) then
   bif (decide (0<=a.at_)) then
    bif (decide (a.at_<=4)) then
     bif (a.at_==0) then
      some true
     else
      (Zbt a.top).bind fun x2=>
      bif x2 then
       some false
      else
       (Zbt a.bottom).bind fun x3=>
       bif x3 then
        some false
       else
        some true
    else
     some false
   else
    some false
  else
   some false
def ZeB (a:Za):Option Unit:=
 (Zj a.ring).bind fun x0=>
 some ()
def Zb0 (a:Za) (b:Int):Option Int:=
 bif ((a.ring.length:Int)==0) then
  none
 else
  some (Int.tmod (bif decide (b<0) then 0 else b) (a.ring.length:Int))
def ZdT (mA:Int) (mI:Int):Option (Unit⊕Unit):=
 bif (mA != mI) then
  some (.inl ())
 else
  some (.inr ())
def Zeo (mA:Int) (mC:Int) (mK:Int) (mI:Int) (mJ:Int) (mL:Int) (mM:Int) (mD:List Int):Option (Int×Int×Int×Int×Int×Int):=
 bif (mK==0) then
  some (mA,1,mA,mJ,mL,mM)
 else
  bif (mK==1) then
   bif (decide (mC<=mI)) then
    some (mA,1,mI,mC,mL,2)
   else
    some (mA,2,mI,mC,mL,mM)
  else
   bif (mK==2) then
    (Zb0 (Za.mk mD mA mC) mI).bind fun x0=>
    (ZG mD x0).bind fun x1=>
    some (mA,3,mI,mJ,x1,mM)
   else
    (ZdT mA mI).bind fun x2=>
    match x2 with
    | (.inl x2)=>
     some (mA,mK,mI,mJ,0,3)
    | (.inr x2)=>
     some ((w64 (mA+1)),mK,mI,mJ,mL,1)
def ZfZ (mA:Int) (mC:Int) (mK:Int) (mI:Int) (mJ:Int) (mL:Int) (mM:Int) (mD:List Int):Option (Int×Int×Int×Int×Int×Int×Int):=
 bif (mK==0) then
  some (mA,(w64 (mC-1)),1,mI,(w64 (mC-1)),mL,mM)
 else
  bif (mK==1) then
   bif (decide (mA<mJ)) then
    (Zb0 (Za.mk mD mA mC) mJ).bind fun x0=>
    (ZG mD x0).bind fun x1=>
    some (mA,mC,mK,mA,mJ,x1,1)
   else
    bif (mA==mJ) then
     some (mA,mC,2,mA,mJ,mL,mM)
    else
     some (mA,mC,3,mA,mJ,mL,mM)
  else
   bif (mK==2) then
    (ZdT mA mI).bind fun x2=>
    match x2 with
    | (.inl x2)=>
     some (mA,mC,3,mI,mJ,mL,mM)
    | (.inr x2)=>
     (Zb0 (Za.mk mD (w64 (mA+1)) mC) mJ).bind fun x3=>
     (ZG mD x3).bind fun x4=>
     some ((w64 (mA+1)),mC,4,mI,mJ,x4,mM)
   else
    bif (mK==4) then
     some (mA,(w64 (mJ+1)),mK,mI,mJ,mL,1)
    else
     some (mA,(w64 (mJ+1)),mK,mI,mJ,mL,2)
def Zab (a:Za) (b:Ze):Option (Za×Ze×Int):=
 (Z6 a).bind fun x0=>
 bif (x0 != 0) then
  some ((Za.mk ([]:List Int) 0 0),(Ze.mk false 0 0 0 0 0),x0)
 else
  (ZdO b).bind fun x1=>
  bif x1 then
   (ZeB a).bind fun x2=>
   bif b.steal then
    (Zeo a.top a.bottom b.at_ b.top b.bottom b.got b.end_ a.ring).bind fun x3=>
    (Z6 (Za.mk a.ring x3.1 a.bottom)).bind fun x4=>
    bif (x4 != 0) then
     some ((Za.mk ([]:List Int) 0 0),(Ze.mk false 0 0 0 0 0),x4)
    else
     some ((Za.mk a.ring x3.1 a.bottom),(Ze.mk b.steal x3.2.1 x3.2.2.1 x3.2.2.2.1 x3.2.2.2.2.1 x3.2.2.2.2.2),0)
   else
    (ZfZ a.top a.bottom b.at_ b.top b.bottom b.got b.end_ a.ring).bind fun x5=>
    (Z6 (Za.mk a.ring x5.1 x5.2.1)).bind fun x6=>
    bif (x6 != 0) then
     some ((Za.mk ([]:List Int) 0 0),(Ze.mk false 0 0 0 0 0),x6)
    else
     some ((Za.mk a.ring x5.1 x5.2.1),(Ze.mk b.steal x5.2.2.1 x5.2.2.2.1 x5.2.2.2.2.1 x5.2.2.2.2.2.1 x5.2.2.2.2.2.2),0)
  else
   some ((Za.mk ([]:List Int) 0 0),(Ze.mk false 0 0 0 0 0),122)
def ZcC (a:Zm) (b:Zz) (s0:Int×(List Int)):Option ((Int×(List Int))⊕(List Int)):=
 bif (decide (s0.1<(b.left.length:Int))) then
  (Zcv b s0.1).bind fun x1=>
  bif x1 then
   some (.inl ((w64 (s0.1+1)),s0.2))
  else
   (ZI b.on s0.1).bind fun x2=>
   bif x2 then
    some (.inl ((w64 (s0.1+1)),s0.2))
   else
    (ZdC a b s0.1).bind fun x3=>
    bif x3 then
     bif (Nat.ble (List.length s0.2+1) lim) then
      some (.inl ((w64 (s0.1+1)),(s0.2++[s0.1])))
     else
      none
    else
     some (.inl ((w64 (s0.1+1)),s0.2))
 else
  some (.inr s0.2)
def ZdS (a:Zm) (b:Zz):Option (List Int):=
 (lp (ZcC a b) (0,([]:List Int))).bind fun r4=>
 some r4
def ZbV (a:Zm) (b:Zz):Option (List Int):=
 (ZaF a b).bind fun x0=>
 bif (x0 != 0) then
  some ([]:List Int)
 else
  (ZdS a b).bind fun x1=>
  some x1
def Za1 (b:Int) (c:Int) (mE:List Ze) (mF:List Int):Option (List Ze):=
 (ZG mF b).bind fun x0=>
 bif (c != 0) then
  (ZG mE b).bind fun x1=>
  some (List.set mE b.toNat (Ze.mk true 0 0 0 0 0))
 else
  (ZG mE b).bind fun x2=>
  some (List.set mE b.toNat (Ze.mk false 0 0 0 0 0))
def ZC (b:Int) (mA:List Int) (mC:List Zo) (mB:List Int) (mD:List Int) (mG:List Za) (mE:List Ze) (mF:List Int):Option (Int×(List Int)×(List Za)×(List Ze)×(List Int)):=
 (ZG mF b).bind fun x0=>
 bif ((mB.length:Int)==0) then
  none
 else
  (ZG mG (Int.tmod (w64 (b+x0)) (mB.length:Int))).bind fun x1=>
  (ZG mE b).bind fun x2=>
  (Zab x1 x2).bind fun x3=>
  bif (x3.2.2 != 0) then
   some (130,mB,mG,mE,mF)
  else
   bif (x3.2.1.end_==1) then
    (ZbV (Zm.mk mA mC) (Zz.mk mB mD)).bind fun x4=>
    (ZI x4 x3.2.1.got).bind fun x5=>
    bif x5 then
     (ZG mB b).bind fun x6=>
     (Za1 b 0 (List.set mE b.toNat x3.2.1) mF).bind fun x7=>
     some (0,(List.set mB b.toNat x3.2.1.got),(List.set mG (Int.tmod (w64 (b+x0)) (mB.length:Int)).toNat x3.1),x7,(List.set mF b.toNat 0))
    else
     some (130,mB,(List.set mG (Int.tmod (w64 (b+x0)) (mB.length:Int)).toNat x3.1),(List.set mE b.toNat x3.2.1),mF)
   else
    bif (x3.2.1.end_==2) then
     bif ((mB.length:Int)==0) then
      none
     else
      (Za1 b (Int.tmod (w64 (x0+1)) (mB.length:Int)) (List.set mE b.toNat x3.2.1) mF).bind fun x8=>
      some (0,mB,(List.set mG (Int.tmod (w64 (b+x0)) (mB.length:Int)).toNat x3.1),x8,(List.set mF b.toNat (Int.tmod (w64 (x0+1)) (mB.length:Int))))
    else
     bif (x3.2.1.end_==3) then
      bif ((mB.length:Int)==0) then
       none
      else
       (Za1 b (Int.tmod (w64 (x0+1)) (mB.length:Int)) (List.set mE b.toNat x3.2.1) mF).bind fun x9=>
       some (0,mB,(List.set mG (Int.tmod (w64 (b+x0)) (mB.length:Int)).toNat x3.1),x9,(List.set mF b.toNat (Int.tmod (w64 (x0+1)) (mB.length:Int))))
     else
      some (0,mB,(List.set mG (Int.tmod (w64 (b+x0)) (mB.length:Int)).toNat x3.1),(List.set mE b.toNat x3.2.1),mF)
def ZM (b:List Int) (mA:List Int) (mC:List Zo) (mD:List Int) (s1:Int×(List Int)×Int×(List Int)×(List Za)×(List Ze)×(List Int)):Option ((Int×(List Int)×Int×(List Int)×(List Za)×(List Ze)×(List Int))⊕((Int×Int×Int×(List Int)×(List Za)×(List Ze)×(List Int))⊕(Int×Int×(List Int)×(List Za)×(List Ze)×(List Int)))):=
 bif (decide (0<(s1.2.1.length:Int))) then
  (ZbW s1.2.2.1 s1.2.1 b s1.1).bind fun x2=>
  (ZC x2 mA mC s1.2.2.2.1 mD s1.2.2.2.2.1 s1.2.2.2.2.2.1 s1.2.2.2.2.2.2).bind fun x3=>
  bif (x3.1 != 0) then
   some (.inr (.inl (x3.1,s1.1,s1.2.2.1,x3.2.1,x3.2.2.1,x3.2.2.2.1,x3.2.2.2.2)))
  else
   (ZaV x3.2.1 x3.2.2.1 x3.2.2.2.1).bind fun x4=>
   some (.inl ((w64 (s1.1+1)),x4,x2,x3.2.1,x3.2.2.1,x3.2.2.2.1,x3.2.2.2.2))
 else
  some (.inr (.inr (s1.1,s1.2.2.1,s1.2.2.2.1,s1.2.2.2.2.1,s1.2.2.2.2.2.1,s1.2.2.2.2.2.2)))
def ZbP (b:List Int) (mA:List Int) (mC:List Zo) (mB:List Int) (mD:List Int) (mG:List Za) (mE:List Ze) (mF:List Int):Option (Int×Int×Int×(List Int)×(List Za)×(List Ze)×(List Int)):=
 (ZaV mB mG mE).bind fun x0=>
 (lp (ZM b mA mC mD) (0,x0,(-1),mB,mG,mE,mF)).bind fun r5=>
 match r5 with
 | (.inl r5)=>
  some (0,r5.1,r5.2.2.1,r5.2.2.2.1,r5.2.2.2.2.1,r5.2.2.2.2.2.1,r5.2.2.2.2.2.2)
 | (.inr r5)=>
  some (r5.1,0,r5.2.1,r5.2.2.1,r5.2.2.2.1,r5.2.2.2.2.1,r5.2.2.2.2.2)
def Zd2 (a:Zm) (b:Zx) (c:List Int):Option (Zx×Int×Int):=
 (Za6 a b).bind fun x0=>
 bif (x0 != 0) then
  some ((Zx.mk (Zz.mk ([]:List Int) ([]:List Int)) ([]:List Za) ([]:List Ze) ([]:List Int)),0,x0)
 else
  (ZeA b).bind fun x1=>
  (ZbP c a.work a.edges b.crew.on b.crew.left x1 b.takers b.from_).bind fun x2=>
  bif (x2.2.1 != 0) then
   some ((Zx.mk (Zz.mk ([]:List Int) ([]:List Int)) ([]:List Za) ([]:List Ze) ([]:List Int)),0,x2.2.1)
  else
   some ((Zx.mk (Zz.mk x2.2.2.2.1 b.crew.left) x2.2.2.2.2.1 x2.2.2.2.2.2.1 x2.2.2.2.2.2.2),x2.1,0)
def Zdh (a:ZhC) (b:Zm) (c:Zx) (d:List Int):Option (Zx×Int×Int):=
 (Zd2 b c d).bind fun x0=>
 some (x0.1,x0.2.1,x0.2.2)
def Zeh (a:Zz):Option Unit:=
 (Zj a.on).bind fun x0=>
 (Zj a.left).bind fun x1=>
 some ()
def Zau (mA:List Int):Option (List Int):=
 bif (Nat.ble (List.length mA) lim) then
  (some (sortI mA)).bind fun x0=>
  some x0
 else
  none
def Zcr (mA:List Int) (s0:Int×(List Int)×(List Int)×(List Int)):Option ((Int×(List Int)×(List Int)×(List Int))⊕((List Int)×(List Int)×(List Int))):=
 bif (decide (s0.1<(mA.length:Int))) then
  (ZG s0.2.1 s0.1).bind fun x1=>
  bif (x1==(-1)) then
   some (.inl ((w64 (s0.1+1)),s0.2.1,s0.2.2.1,s0.2.2.2))
  else
   (ZG s0.2.2.1 x1).bind fun x2=>
   (Zcv (Zz.mk s0.2.1 (List.set s0.2.2.1 x1.toNat (w64 (x2-1)))) x1).bind fun x3=>
   bif x3 then
    bif (Nat.ble (List.length s0.2.2.2+1) lim) then
     some (.inl ((w64 (s0.1+1)),(List.set s0.2.1 s0.1.toNat (-1)),(List.set s0.2.2.1 x1.toNat (w64 (x2-1))),(s0.2.2.2++[x1])))
    else
     none
   else
    some (.inl ((w64 (s0.1+1)),s0.2.1,(List.set s0.2.2.1 x1.toNat (w64 (x2-1))),s0.2.2.2))
 else
  some (.inr (s0.2.1,s0.2.2.1,s0.2.2.2))
def Ziz (mA:List Int) (mB:List Int):Option ((List Int)×(List Int)×(List Int)):=
 (lp (Zcr mA) (0,mA,mB,([]:List Int))).bind fun r4=>
 (Zau r4.2.2).bind fun x5=>
 some (r4.1,r4.2.1,x5)
def Zez (a:Zm) (b:Zz):Option (Int⊕((List Int)×(List Int)×(List Int))):=
 (ZaF a b).bind fun x0=>
 bif (x0 != 0) then
  some (.inl x0)
 else
  (Zeh b).bind fun x1=>
  (Ziz b.on b.left).bind fun x2=>
  some (.inr (x2.1,x2.2.1,x2.2.2))
def ZcM (a:Zo) (b0:Int):Option (Int×Bool):=
 bif (a.src==b0) then
  some (a.dst,true)
 else
  some (a.dst,false)
def Zd0 (a:Zm) (b:(Zo->Option (Int×Bool))) (s0:Int×(List Int)):Option ((Int×(List Int))⊕(List Int)):=
 bif (decide (s0.1<(a.edges.length:Int))) then
  (ZG a.edges s0.1).bind fun x1=>
  (b x1).bind fun x2=>
  bif x2.2 then
   bif (Nat.ble (List.length s0.2+1) lim) then
    some (.inl ((w64 (s0.1+1)),(s0.2++[x2.1])))
   else
    none
  else
   some (.inl ((w64 (s0.1+1)),s0.2))
 else
  some (.inr s0.2)
def Zkx (a:Zm) (b:(Zo->Option (Int×Bool))):Option (List Int):=
 (lp (Zd0 a b) (0,([]:List Int))).bind fun r3=>
 (Zau r3).bind fun x4=>
 some x4
def Zf1 (a:Zm) (b:Int):Option (List Int):=
 (ZdD a).bind fun x0=>
 bif (x0 != 0) then
  some ([]:List Int)
 else
  (Zkx a (fun z0=>ZcM z0 b)).bind fun x1=>
  some x1
def Zhl (a:Za) (b:Int):Option (Za×Int):=
 (Z6 a).bind fun x0=>
 bif (x0 != 0) then
  some ((Za.mk ([]:List Int) 0 0),x0)
 else
  bif (decide (a.bottom<a.top)) then
   some ((Za.mk ([]:List Int) 0 0),121)
  else
   bif ((w64 (a.bottom-a.top))==(a.ring.length:Int)) then
    some ((Za.mk ([]:List Int) 0 0),121)
   else
    (ZeB a).bind fun x1=>
    (Zb0 a a.bottom).bind fun x2=>
    (ZG a.ring x2).bind fun x3=>
    some ((Za.mk (List.set a.ring x2.toNat b) a.top (w64 (a.bottom+1))),0)
def ZbU (b:Int) (c:Int) (mG:List Za):Option ((List Za)⊕(List Za)):=
 (ZG mG b).bind fun x0=>
 (Zhl x0 c).bind fun x1=>
 bif (x1.2==0) then
  bif (x1.2==0) then
   some (.inl (List.set mG b.toNat x1.1))
  else
   some (.inr (List.set mG b.toNat x1.1))
 else
  bif (x1.2==0) then
   some (.inl mG)
  else
   some (.inr mG)
def Z1 (x2:List Int) (s3:Int×(List Za)×(List Int)) (x6:List Int) (s7:Int×(List Za)×(List Int)):Option ((Int×(List Za)×(List Int))⊕(((List Za)×(List Int))⊕((List Za)×(List Int)))):=
 bif (decide (s7.1<(x6.length:Int))) then
  (ZG x6 s7.1).bind fun x8=>
  (ZI x2 x8).bind fun x9=>
  bif x9 then
   (ZI s7.2.2 x8).bind fun x10=>
   bif x10 then
    some (.inl ((w64 (s7.1+1)),s7.2.1,s7.2.2))
   else
    (ZbU s3.1 x8 s7.2.1).bind fun x11=>
    match x11 with
    | (.inl x11)=>
     bif (Nat.ble (List.length s7.2.2+1) lim) then
      some (.inl ((w64 (s7.1+1)),x11,(s7.2.2++[x8])))
     else
      none
    | (.inr x11)=>
     some (.inr (.inl (x11,s7.2.2)))
  else
   some (.inl ((w64 (s7.1+1)),s7.2.1,s7.2.2))
 else
  some (.inr (.inr (s7.2.1,s7.2.2)))
def Z2 (mA:List Int) (mC:List Zo) (mB:List Int) (x1:((List Int)×(List Int)×(List Int))) (x2:List Int) (s3:Int×(List Za)×(List Int)):Option ((Int×(List Za)×(List Int))⊕((List Za)⊕(List Za))):=
 bif (decide (s3.1<(mB.length:Int))) then
  (ZG mB s3.1).bind fun x4=>
  bif (x4==(-1)) then
   some (.inl ((w64 (s3.1+1)),s3.2.1,s3.2.2))
  else
   (ZG x1.1 s3.1).bind fun x5=>
   bif (x5 != (-1)) then
    some (.inl ((w64 (s3.1+1)),s3.2.1,s3.2.2))
   else
    (Zf1 (Zm.mk mA mC) x4).bind fun x6=>
    (lp (Z1 x2 s3 x6) (0,s3.2.1,s3.2.2)).bind fun r12=>
    match r12 with
    | (.inl r12)=>
     some (.inr (.inl r12.1))
    | (.inr r12)=>
     some (.inl ((w64 (s3.1+1)),r12.1,r12.2))
 else
  some (.inr (.inr s3.2.1))
def ZdQ (mA:List Int) (mC:List Zo) (mB:List Int) (mD:List Int) (mG:List Za):Option (Int⊕(((List Za)×(List Int)×(List Int))⊕((List Za)×(List Int)×(List Int)×(List Int)))):=
 (Zj mB).bind fun x0=>
 (Zez (Zm.mk mA mC) (Zz.mk mB mD)).bind fun x1=>
 match x1 with
 | (.inl x1)=>
  bif (x1 != 0) then
   some (.inl x1)
  else
   none
 | (.inr x1)=>
  (ZbV (Zm.mk mA mC) (Zz.mk x1.1 x1.2.1)).bind fun x2=>
  (lp (Z2 mA mC mB x1 x2) (0,mG,([]:List Int))).bind fun r13=>
  match r13 with
  | (.inl r13)=>
   some (.inr (.inl (r13,x1.1,x1.2.1)))
  | (.inr r13)=>
   some (.inr (.inr (r13,x1.2.2,x1.1,x1.2.1)))
def ZdR (a:Zm) (b:Zx):Option (Zx×(List Int)×Int):=
 (Za6 a b).bind fun x0=>
 bif (x0 != 0) then
  some ((Zx.mk (Zz.mk ([]:List Int) ([]:List Int)) ([]:List Za) ([]:List Ze) ([]:List Int)),([]:List Int),x0)
 else
  (ZeA b).bind fun x1=>
  (ZdQ a.work a.edges b.crew.on b.crew.left x1).bind fun x2=>
  match x2 with
  | (.inl x2)=>
   bif (x2 != 0) then
    some ((Zx.mk (Zz.mk ([]:List Int) ([]:List Int)) ([]:List Za) ([]:List Ze) ([]:List Int)),([]:List Int),x2)
   else
    none
  | (.inr (.inl x2))=>
   some ((Zx.mk (Zz.mk ([]:List Int) ([]:List Int)) ([]:List Za) ([]:List Ze) ([]:List Int)),([]:List Int),130)
  | (.inr (.inr x2))=>
   some ((Zx.mk (Zz.mk x2.2.2.1 x2.2.2.2) x2.1 b.takers b.from_),x2.2.1,0)
def Zdb (a:ZhC) (b:Zm) (c:Zx):Option (Zx×(List Int)×Int):=
 (ZdR b c).bind fun x0=>
 some (x0.1,x0.2.1,x0.2.2)
def Zcg (mA:List Int) (s1:(List Int)×Int×(List Int)):Option (((List Int)×Int×(List Int))⊕(List Int)):=
 bif (decide (s1.2.1<(mA.length:Int))) then
  (ZG s1.2.2 s1.2.1).bind fun x2=>
  bif (x2==(-1)) then
   bif (decide (0<(s1.1.length:Int))) then
    (ZG s1.1 0).bind fun x3=>
    bif (Nat.ble 1 (List.length s1.1)) then
     some (.inl ((List.drop 1 s1.1),(w64 (s1.2.1+1)),(List.set s1.2.2 s1.2.1.toNat x3)))
    else
     none
   else
    some (.inl (s1.1,(w64 (s1.2.1+1)),s1.2.2))
  else
   some (.inl (s1.1,(w64 (s1.2.1+1)),s1.2.2))
 else
  some (.inr s1.2.2)
def Zie (a:Zm) (mA:List Int) (mB:List Int):Option (List Int):=
 (ZdS a (Zz.mk mA mB)).bind fun x0=>
 (lp (Zcg mA) (x0,0,mA)).bind fun r4=>
 some r4
def ZfR (a:Zm) (b:Zz):Option (Zz×Int):=
 (ZaF a b).bind fun x0=>
 bif (x0 != 0) then
  some ((Zz.mk ([]:List Int) ([]:List Int)),x0)
 else
  (Zeh b).bind fun x1=>
  (Zie a b.on b.left).bind fun x2=>
  some ((Zz.mk x2 b.left),0)
def Zds (a:ZlH) (b:Zm) (c:Zx) (d:List Int):Option (Zx×Int×Int):=
 (ZfR b c.crew).bind fun x0=>
 some ((Zx.mk x0.1 ([]:List Za) ([]:List Ze) ([]:List Int)),0,x0.2)
def Zdr (a:ZlH) (b:Zm) (c:Zx):Option (Zx×(List Int)×Int):=
 (Zez b c.crew).bind fun x0=>
 match x0 with
 | (.inl x0)=>
  some ((Zx.mk (Zz.mk ([]:List Int) ([]:List Int)) ([]:List Za) ([]:List Ze) ([]:List Int)),([]:List Int),x0)
 | (.inr x0)=>
  some ((Zx.mk (Zz.mk x0.1 x0.2.1) ([]:List Za) ([]:List Ze) ([]:List Int)),x0.2.2,0)
def ZcZ (a:Zm) (b:ZK) (c:List Int):Option (ZK×ZT×Int):=
 bif b.stealing then
  (ZdF true).bind fun x0=>
  match x0 with
  | (.inl x0)=>
   (Zdh (ZhC.mk ) a b.gang c).bind fun x1=>
   bif (x1.2.2 != 0) then
    some ((ZK.mk false ([]:List Int) 0 (Zx.mk (Zz.mk ([]:List Int) ([]:List Int)) ([]:List Za) ([]:List Ze) ([]:List Int))),(ZT.mk ([]:List Int) ([]:List Int) 0),x1.2.2)
   else
    (Zj x1.1.crew.on).bind fun x2=>
    (Zdb (ZhC.mk ) a x1.1).bind fun x3=>
    bif (x3.2.2 != 0) then
     some ((ZK.mk false ([]:List Int) 0 (Zx.mk (Zz.mk ([]:List Int) ([]:List Int)) ([]:List Za) ([]:List Ze) ([]:List Int))),(ZT.mk ([]:List Int) ([]:List Int) 0),x3.2.2)
    else
     (Zj b.demand).bind fun x4=>
     (ZaC a b.demand x3.1.crew.left).bind fun x5=>
     some ((ZK.mk b.stealing b.demand x5 x3.1),(ZT.mk x1.1.crew.on x3.2.1 x1.2.1),0)
  | (.inr x0)=>
   (Zds (ZlH.mk ) a b.gang c).bind fun x6=>
   bif (x6.2.2 != 0) then
    some ((ZK.mk false ([]:List Int) 0 (Zx.mk (Zz.mk ([]:List Int) ([]:List Int)) ([]:List Za) ([]:List Ze) ([]:List Int))),(ZT.mk ([]:List Int) ([]:List Int) 0),x6.2.2)
   else
    (Zj x6.1.crew.on).bind fun x7=>
    (Zdr (ZlH.mk ) a x6.1).bind fun x8=>
    bif (x8.2.2 != 0) then
     some ((ZK.mk false ([]:List Int) 0 (Zx.mk (Zz.mk ([]:List Int) ([]:List Int)) ([]:List Za) ([]:List Ze) ([]:List Int))),(ZT.mk ([]:List Int) ([]:List Int) 0),x8.2.2)
    else
     (Zj b.demand).bind fun x9=>
     (ZaC a b.demand x8.1.crew.left).bind fun x10=>
     some ((ZK.mk b.stealing b.demand x10 x8.1),(ZT.mk x6.1.crew.on x8.2.1 x6.2.1),0)
 else
  (ZdF false).bind fun x11=>
  match x11 with
  | (.inl x11)=>
   (Zdh (ZhC.mk ) a b.gang c).bind fun x12=>
   bif (x12.2.2 != 0) then
    some ((ZK.mk false ([]:List Int) 0 (Zx.mk (Zz.mk ([]:List Int) ([]:List Int)) ([]:List Za) ([]:List Ze) ([]:List Int))),(ZT.mk ([]:List Int) ([]:List Int) 0),x12.2.2)
   else
    (Zj x12.1.crew.on).bind fun x13=>
    (Zdb (ZhC.mk ) a x12.1).bind fun x14=>
    bif (x14.2.2 != 0) then
     some ((ZK.mk false ([]:List Int) 0 (Zx.mk (Zz.mk ([]:List Int) ([]:List Int)) ([]:List Za) ([]:List Ze) ([]:List Int))),(ZT.mk ([]:List Int) ([]:List Int) 0),x14.2.2)
    else
     (Zj b.demand).bind fun x15=>
     (ZaC a b.demand x14.1.crew.left).bind fun x16=>
     some ((ZK.mk b.stealing b.demand x16 x14.1),(ZT.mk x12.1.crew.on x14.2.1 x12.2.1),0)
  | (.inr x11)=>
   (Zds (ZlH.mk ) a b.gang c).bind fun x17=>
   bif (x17.2.2 != 0) then
    some ((ZK.mk false ([]:List Int) 0 (Zx.mk (Zz.mk ([]:List Int) ([]:List Int)) ([]:List Za) ([]:List Ze) ([]:List Int))),(ZT.mk ([]:List Int) ([]:List Int) 0),x17.2.2)
   else
    (Zj x17.1.crew.on).bind fun x18=>
    (Zdr (ZlH.mk ) a x17.1).bind fun x19=>
    bif (x19.2.2 != 0) then
     some ((ZK.mk false ([]:List Int) 0 (Zx.mk (Zz.mk ([]:List Int) ([]:List Int)) ([]:List Za) ([]:List Ze) ([]:List Int))),(ZT.mk ([]:List Int) ([]:List Int) 0),x19.2.2)
    else
     (Zj b.demand).bind fun x20=>
     (ZaC a b.demand x19.1.crew.left).bind fun x21=>
     some ((ZK.mk b.stealing b.demand x21 x19.1),(ZT.mk x17.1.crew.on x19.2.1 x17.2.1),0)
def Zey (a:Zm) (b:ZK) (c:List Int):Option (ZK×ZT×Int):=
 (ZbY a b).bind fun x0=>
 bif (x0==0) then
  bif (b.state != 1) then
   some ((ZK.mk false ([]:List Int) 0 (Zx.mk (Zz.mk ([]:List Int) ([]:List Int)) ([]:List Za) ([]:List Ze) ([]:List Int))),(ZT.mk ([]:List Int) ([]:List Int) 0),191)
  else
   bif (x0 != 0) then
    some ((ZK.mk false ([]:List Int) 0 (Zx.mk (Zz.mk ([]:List Int) ([]:List Int)) ([]:List Za) ([]:List Ze) ([]:List Int))),(ZT.mk ([]:List Int) ([]:List Int) 0),x0)
   else
    (ZcZ a b c).bind fun x1=>
    some (x1.1,x1.2.1,x1.2.2)
 else
  bif (x0 != 0) then
   some ((ZK.mk false ([]:List Int) 0 (Zx.mk (Zz.mk ([]:List Int) ([]:List Int)) ([]:List Za) ([]:List Ze) ([]:List Int))),(ZT.mk ([]:List Int) ([]:List Int) 0),x0)
  else
   (ZcZ a b c).bind fun x2=>
   some (x2.1,x2.2.1,x2.2.2)
def ZcH (a:List Int) (b:List Int) (s0:Int):Option (Int⊕(Unit⊕Unit)):=
 bif (decide (s0<(a.length:Int))) then
  (ZG a s0).bind fun x1=>
  (ZG b s0).bind fun x2=>
  bif (x1 != x2) then
   some (.inr (.inl ()))
  else
   some (.inl (w64 (s0+1)))
 else
  some (.inr (.inr ()))
def ZaB (a:List Int) (b:List Int):Option Bool:=
 bif ((a.length:Int) != (b.length:Int)) then
  some false
 else
  (lp (ZcH a b) 0).bind fun r3=>
  match r3 with
  | (.inl r3)=>
   some false
  | (.inr r3)=>
   some true
def Zhs (a:Zz) (b:Zz):Option Bool:=
 (ZaB a.on b.on).bind fun x0=>
 bif x0 then
  (ZaB a.left b.left).bind fun x1=>
  bif x1 then
   some true
  else
   some false
 else
  some false
def Zj0 (a:Za) (b:Za):Option Bool:=
 (ZaB a.ring b.ring).bind fun x0=>
 bif x0 then
  bif (a.top==b.top) then
   bif (a.bottom==b.bottom) then
    some true
   else
    some false
  else
   some false
 else
  some false
def ZhD (a:Zx) (b:Zx) (s2:Int):Option (Int⊕(Unit⊕Unit)):=
 bif (decide (s2<(a.deques.length:Int))) then
  (ZG a.deques s2).bind fun x3=>
  (ZG b.deques s2).bind fun x4=>
  (Zj0 x3 x4).bind fun x5=>
  bif x5 then
   some (.inl (w64 (s2+1)))
  else
   some (.inr (.inl ()))
 else
  some (.inr (.inr ()))
def ZhM (a:Zx) (b:Zx) (s7:Int):Option (Int⊕(Unit⊕Unit)):=
 bif (decide (s7<(a.takers.length:Int))) then
  (ZG a.takers s7).bind fun x8=>
  (ZG b.takers s7).bind fun x9=>
  bif (!((x8.steal==x9.steal)&&((x8.at_==x9.at_)&&((x8.top==x9.top)&&((x8.bottom==x9.bottom)&&((x8.got==x9.got)&&((x8.end_==x9.end_)&&true))))))) then
   some (.inr (.inl ()))
  else
   some (.inl (w64 (s7+1)))
 else
  some (.inr (.inr ()))
def Zfd (a:Zx) (b:Zx):Option Bool:=
 (Zhs a.crew b.crew).bind fun x0=>
 bif x0 then
  bif ((a.deques.length:Int) != (b.deques.length:Int)) then
   some false
  else
   bif ((a.takers.length:Int) != (b.takers.length:Int)) then
    some false
   else
    (ZaB a.from_ b.from_).bind fun x1=>
    bif x1 then
     (lp (ZhD a b) 0).bind fun r6=>
     match r6 with
     | (.inl r6)=>
      some false
     | (.inr r6)=>
      (lp (ZhM a b) 0).bind fun r10=>
      match r10 with
      | (.inl r10)=>
       some false
      | (.inr r10)=>
       some true
    else
     some false
 else
  some false
def Zfh (a:ZK) (b:ZK):Option Bool:=
 bif a.stealing then
  bif b.stealing then
   (ZaB a.demand b.demand).bind fun x0=>
   bif x0 then
    bif (a.state==b.state) then
     (Zfd a.gang b.gang).bind fun x1=>
     bif x1 then
      some true
     else
      some false
    else
     some false
   else
    some false
  else
   some false
 else
  bif b.stealing then
   some false
  else
   (ZaB a.demand b.demand).bind fun x2=>
   bif x2 then
    bif (a.state==b.state) then
     (Zfd a.gang b.gang).bind fun x3=>
     bif x3 then
      some true
     else
      some false
    else
     some false
   else
    some false
def Zc8 (a:List Int) (b:Int) (s0:Int):Option (Int⊕(Unit⊕Unit)):=
 bif (decide (s0<(a.length:Int))) then
  (ZG a s0).bind fun x1=>
  bif (x1==b) then
   some (.inr (.inl ()))
  else
   some (.inl (w64 (s0+1)))
 else
  some (.inr (.inr ()))
def ZdG (a:List Int) (b:Int):Option Bool:=
 (lp (Zc8 a b) 0).bind fun r2=>
 match r2 with
 | (.inl r2)=>
  some true
 | (.inr r2)=>
  some false
def Zaw (b:ZK) (x6:(ZK×ZT×Int)) (s8:Int):Option (Int⊕(Unit⊕Unit)):=
 bif (decide (s8<(b.gang.crew.left.length:Int))) then
  (ZdG x6.2.1.on s8).bind fun x9=>
  bif x9 then
   bif (decide ((x6.1.gang.crew.left.length:Int)<=s8)) then
    some (.inr (.inl ()))
   else
    (ZG x6.1.gang.crew.left s8).bind fun x10=>
    (ZG b.gang.crew.left s8).bind fun x11=>
    bif (x10 != (w64 (x11-1))) then
     some (.inr (.inl ()))
    else
     (ZdG x6.2.1.done s8).bind fun x12=>
     bif x12 then
      bif (x10==0) then
       some (.inl (w64 (s8+1)))
      else
       some (.inr (.inl ()))
     else
      bif (x10==0) then
       some (.inr (.inl ()))
      else
       some (.inl (w64 (s8+1)))
  else
   bif (decide ((x6.1.gang.crew.left.length:Int)<=s8)) then
    some (.inr (.inl ()))
   else
    (ZG x6.1.gang.crew.left s8).bind fun x13=>
    (ZG b.gang.crew.left s8).bind fun x14=>
    bif (x13 != (w64 (x14-0))) then
     some (.inr (.inl ()))
    else
     (ZdG x6.2.1.done s8).bind fun x15=>
     bif x15 then
      some (.inr (.inl ()))
     else
      some (.inl (w64 (s8+1)))
 else
  some (.inr (.inr ()))
def ZdN (a:Zm) (b:ZK) (c:List Int):Option Bool:=
 ZcQ.bind fun x0=>
 bif x0 then
  (ZfX a b).bind fun x1=>
  bif x1 then
   bif (decide (300<(c.length:Int))) then
    ZcQ.bind fun x2=>
    bif x2 then
     some true
    else
     some false
   else
    (Zex a).bind fun x3=>
    (ZeK b).bind fun x4=>
    (Ze8 c).bind fun x5=>
    (Zey a (ZK.mk b.stealing b.demand b.state (Zx.mk b.gang.crew x4 b.gang.takers b.gang.from_)) c).bind fun x6=>
    bif (x6.2.2 != 0) then
     (Zfh x6.1 (ZK.mk false ([]:List Int) 0 (Zx.mk (Zz.mk ([]:List Int) ([]:List Int)) ([]:List Za) ([]:List Ze) ([]:List Int)))).bind fun x7=>
     bif x7 then
      bif ((x6.2.1.on.length:Int)==0) then
       bif ((x6.2.1.done.length:Int)==0) then
        some true
       else
        some false
      else
       some false
     else
      some false
    else
     (lp (Zaw b x6) 0).bind fun r16=>
     match r16 with
     | (.inl r16)=>
      some false
     | (.inr r16)=>
      (Zex a).bind fun x17=>
      (ZeK x6.1).bind fun x18=>
      (ZbY a (ZK.mk x6.1.stealing x6.1.demand x6.1.state (Zx.mk x6.1.gang.crew x18 x6.1.gang.takers x6.1.gang.from_))).bind fun x19=>
      bif (x19==0) then
       bif ((x6.2.1.on.length:Int)==(b.gang.crew.on.length:Int)) then
        (ZaB x6.1.demand b.demand).bind fun x20=>
        bif x20 then
         some true
        else
         some false
       else
        some false
      else
       some false
  else
   ZcQ.bind fun x21=>
   bif x21 then
    some true
   else
    some false
 else
  ZcQ.bind fun x22=>
  bif x22 then
   some true
  else
   some false
abbrev zL (t:Bool) (l:List Int):D:=.list t (List.map Zq l)
abbrev zM {A:Type} (t:Bool) (f:A->D) (l:List A):D:=.list t (List.map f l)
abbrev zN (n:Int):V:=.d (Zq n)
abbrev zV (t:Bool) (l:List Int):V:=.d (zL t l)
abbrev zW {A:Type} (t:Bool) (f:A->D) (l:List A):V:=.d (zM t f l)
abbrev zA (l:List Int):Blk:=.arr 1 (List.map Zq l)
abbrev zK0 (x0:Bool) (x1:List Int) (x2:Bool) (x3:List Zo):Blk:=.cells [(zV x0 x1),(zW x2 ZbC x3)]
abbrev zK1 (x0:Bool) (x1:List Int) (x2:Bool) (x3:List Zo):D:=D.agg [(zL x0 x1),(zM x2 ZbC x3)]
abbrev zK2 (x0:Bool) (x1:List Int) (x2:Bool) (x3:List Int) (x4:Bool) (x5:List Za) (x6:Bool) (x7:List Ze) (x8:Bool) (x9:List Int):D:=D.agg [(zL x0 x1),(zL x2 x3),(zM x4 Zt x5),(zM x6 Zv x7),(zL x8 x9)]
abbrev zK3 (x0:Bool) (x1:List Int) (x2:Bool) (x3:List Zo) (x4:Int):Blk:=.cells [(.sl 1 1),(.sl 2 1),(.sl 3 3),(.sl 4 6),(.sl 5 1),(zV x0 x1),(zW x2 ZbC x3),(zN x4)]
abbrev zK4 (x0:Bool) (x1:List Int) (x2:Bool) (x3:List Int) (x4:Bool) (x5:List Za) (x6:Bool) (x7:List Ze) (x8:Bool) (x9:List Int):Blk:=.cells [(zV x0 x1),(zV x2 x3),(zW x4 Zt x5),(zW x6 Zv x7),(zV x8 x9)]
abbrev zK5 (x0:Bool) (x1:List Int) (x2:Bool) (x3:List Int):D:=D.agg [(zL x0 x1),(zL x2 x3)]
abbrev zK6 (x0:Bool) (x1:List Int) (x2:Int) (x3:Int):D:=D.agg [(zL x0 x1),(Zq x2),(Zq x3)]
abbrev zK7 (x0:Int) (x1:Int):Blk:=.cells [(.sl 2 1),(zN x0),(zN x1)]
abbrev zK8 (x0:Bool) (x1:List Int) (x2:Bool) (x3:List Int) (x4:Bool) (x5:List Za) (x6:Bool) (x7:List Ze) (x8:Bool) (x9:List Int) (x10:Bool) (x11:List Int) (x12:Bool) (x13:List Zo) (x14:Int):D:=D.rptr [(zL x0 x1),(zL x2 x3),(zM x4 Zt x5),(zM x6 Zv x7),(zL x8 x9),(zL x10 x11),(zM x12 ZbC x13),(Zq x14)]
abbrev zK9 (x0:Bool) (x1:List Int) (x2:Bool) (x3:List Int):Blk:=.cells [(zV x0 x1),(zV x2 x3)]
end
def Zvu (n a b:Int):Bool:=decide (a<=n)&&decide (n<=b)
theorem Zia {γ:Type} (l:List γ) (p:γ->Bool) (step:Int->Option (Int⊕(Int⊕Unit)))
  (h1:∀i x,i<l.length->l[i]? = some x->step (i:Int)=some (bif p x then .inr (.inl (i:Int)) else .inl ((i+1:Nat):Int)))
  (h2:step (l.length:Int)=some (.inr (.inr ()))) :
  (((lp step 0).bind fun(r:Int⊕Unit)=>match r with | .inl r=>some r | .inr _=>some (-1)).bind fun x=>bif decide (0<=x) then some true else some false)=some (l.any p):=by
 rw[Zg6 l step (fun _=>p) (fun i _=>.inl (i:Int)) (.inr ()) h1 h2]
 rcases ZmQ p () l 0 with⟨j,e1,e2⟩ | ⟨e1,e2⟩
 ·rw[e1,e2]
  show(bif decide ((0:Int)<=(j:Int)) then some true else some false)=some true
  rw[decide_eq_true (by omega)]
  rfl
 ·rw[e1,e2]
  rfl
def ZpL (e x:Zo):Bool:=e.src==x.src&&(e.dst==x.dst&&true)
theorem ZtH (l:List Zo) (e:Zo) (hl:l.length<9223372036854775808):Zak l e=some (l.any (ZpL e)):=by
 unfold Zak Zbp
 refine Zia l (ZpL e) _ (fun i x hi hx=>?_) ?_
 ·simp only[Zag,ZcJ hi,Zr hx,Option.bind_some,ZN hi hl,cond_true,ZpL]
  cases (e.src==x.src&&(e.dst==x.dst&&true))<;>rfl
 ·simp only[Zag,ZcW];rfl
def again (f g:ZrW):Bool:=g.user==f.user&&g.pos==f.pos
theorem ZfI (l:List Int) (n:Int) (hl:l.length<9223372036854775808):ZI l n=some (l.any (fun x=>n==x)):=by
 unfold ZI Zb6
 refine Zia l (fun x=>n==x) _ (fun i x hi hx=>?_) ?_
 ·simp only[Zax,ZcJ hi,Zr hx,Option.bind_some,ZN hi hl,cond_true]
  cases (n==x)<;>rfl
 ·simp only[Zax,ZcW];rfl
theorem Zdq (l:List Int) (f:Int->Option Bool) (p:Int->Bool) (hf:∀x∈l,f x=some (p x)) (hl:l.length<9223372036854775808):Zw l f=some (l.any p):=by
 unfold Zw ZB
 refine Zia l p _ (fun i x hi hx=>?_) ?_
 ·simp only[Zs,ZcJ hi,Zr hx,Option.bind_some,hf x (List.mem_of_getElem? hx),ZN hi hl,cond_true]
  cases p x<;>rfl
 ·simp only[Zs,ZcW];rfl
def two (n:Nat) (a b:Int):Bool:=(a != b)&&(Zvu a 0 (n-1)&&Zvu b 0 (n-1))
def ZeP (n:Int):Int:=bif decide (n<0) then 10 else bif decide (1099511627775<n) then 11 else 0
theorem Zi4 (n:Int):Zev n=some (ZeP n):=by
 unfold Zev ZeP
 cases decide (n<0)<;>cases decide (1099511627775<n)<;>rfl
noncomputable def ZsN (x:Int):Int:=match Za9 x with | some n=>n | none=>0
theorem Zyr (x:Int):Zbw x=some (ZsN x):=by
 unfold Zbw ZsN Za9
 rfl
def ZyV (n:Nat):Bool:=[1,2,4,8,16,32,64,128,256,512,1024,2048,4096].contains n
theorem Zrv:((List.range 4097).all fun n=>(ZsN (u64.wrap (n:Int))==1)==ZyV n)=true:=by kernel_rfl
theorem ZrP (n:Nat) (h:n<=4096):(ZsN (u64.wrap (n:Int))==1)=ZyV n:=by
 have:=List.all_eq_true.1 Zrv n (by simp;omega)
 simpa using this
noncomputable def Zts (n:Int):Bool:=!(ZeP n != 0) && !(ZsN (u64.wrap n) != 1)
theorem ZpN (n:Int):ZgB n=some (bif Zts n then .inr () else .inl ()):=by
 have tz:ZaO (u64.wrap n)=some ():=by
  unfold ZaO Zbi
  cases u64.wrap n==0<;>rfl
 unfold ZgB Zts
 simp only[Zi4,Zyr,Option.bind_some,tz]
 cases (ZeP n != 0)
 ·cases (ZsN (u64.wrap n) != 1)<;>rfl
 ·rfl
theorem Zry (n:Nat) (h:n<=4096):Zts (n:Int)=ZyV n:=by
 have h1:(ZeP (n:Int) != 0)=false:=by
  unfold ZeP
  rw[decide_eq_false (show ¬((n:Int)<0) by omega),decide_eq_false (show ¬((1099511627775:Int)<n) by omega)]
  rfl
 rw[<- ZrP n h]
 unfold Zts
 rw[h1]
 unfold bne
 rw[Bool.not_not]
 rfl
def Zy4 (b:ZmJ):Prop:=b.ins.length<9223372036854775808/\b.outs.length<9223372036854775808
structure Zyg (d:Zr9):Prop where
 p:d.parts.length<9223372036854775808
 e:d.edges.length<9223372036854775808
 f:d.futures.length<9223372036854775808
 b:d.barriers.length<9223372036854775808
 i:∀b∈d.barriers,Zy4 b
theorem Zrs {γ:Type}{l:List γ}{i n:Nat} (h:l.length<n):(l.take i).length<n:=by rw[List.length_take];omega
def Zh2 (n:Nat) (x:Int):Bool:=decide (0<=x)&&decide (x<(n:Int))
theorem Zsi (l:List Int) (n:Int) (hl:l.length<9223372036854775808):ZdG l n=some (l.any fun x=>n==x):=by
 have key:=Zg6 l (Zc8 l n) (fun _ x=>n==x) (fun _ _=>.inl ()) (.inr ()) (fun i x hi hx=>by
   have e:(x==n)=(n==x):=Bool.beq_comm
   simp only[Zc8,ZcJ hi,Zr hx,Option.bind_some,ZN hi hl,cond_true,e]
   cases (n==x)<;>rfl) (by simp only[Zc8,ZcW];rfl)
 unfold ZdG
 rw[key,Zfy,Zmh]
 cases (l.any fun x=>n==x)<;>rfl
def Ze7 (w:Int):Bool:=decide (w<0) || decide (1000<w)
def Zlu (g:Zm) (i:Nat) (e:Zo):Bool:=!(Zh2 g.work.length e.src) || (!(Zh2 g.work.length e.dst) || ((e.src==e.dst) || (g.edges.take i).any (ZpL e)))
def Zit (g:Zm):Int:=bif decide (64<(g.work.length:Int)) || decide (256<(g.edges.length:Int)) then 40 else bif g.work.any Ze7 then 41 else bif Zjv (Zlu g) 0 g.edges then 42 else 0
structure Zir (g:Zm):Prop where
 w:g.work.length<9223372036854775808
 e:g.edges.length<9223372036854775808
theorem ZtZ (w:Int):Zbn w=some (Ze7 w):=by
 unfold Zbn Ze7
 cases decide (w<0)<;>cases decide (1000<w)<;>rfl
theorem Zvv (a:Int) (l:List Int):Zdp a l=some (Zh2 l.length a):=by
 unfold Zdp Zh2
 cases decide (0<=a)<;>cases decide (a<(l.length:Int))<;>rfl
theorem ZqV (g:Zm) (h:Zir g):lp (Zcq g) 0=some (bif Zjv (Zlu g) 0 g.edges then .inl () else .inr ()):=by
 have key:=Zg6 g.edges (Zcq g) (Zlu g) (fun _ _=>.inl ()) (.inr ()) (fun i x hi hx=>by
   have e0:decide ((0:Int)<=(i:Int))=true:=decide_eq_true (by omega)
   have e1:Nat.ble i g.edges.length=true:=Nat.ble_eq_true_of_le (by omega)
   simp only[Zcq,ZcJ hi,Zr hx,Option.bind_some,ZN hi h.e,cond_true,Zvv,Zlu,e0,Int.toNat_natCast,e1,ZtH _ x (Zrs h.e)]
   cases Zh2 g.work.length x.src<;>cases Zh2 g.work.length x.dst<;>cases (x.src==x.dst)<;>cases (g.edges.take i).any (ZpL x)<;>rfl) (by simp only[Zcq,ZcW];rfl)
 rw[key,Zfy]
inductive Way (g:Zm):Int->Int->Prop
 | one {e:Zo}:e∈g.edges->Way g e.src e.dst
 | more {a:Int} {e:Zo}:Way g a e.src->e∈g.edges->Way g a e.dst
theorem Way.trans {g:Zm}{a b c:Int} (h1:Way g a b) (h2:Way g b c):Way g a c:=by
 induction h2 with
 | one he=>exact Way.more h1 he
 | more _ he ih=>exact Way.more (ih h1) he
def Zi9 (g:Zm):Prop:=∀a,¬Way g a a
structure ZcG (g:Zm):Prop where
 wl:g.work.length<=64
 el:g.edges.length<=256
 w:∀x∈g.work,0<=x/\x<=1000
 src:∀e∈g.edges,0<=e.src/\e.src.toNat<g.work.length
 dst:∀e∈g.edges,0<=e.dst/\e.dst.toNat<g.work.length
theorem ZcG.short {g:Zm} (h:ZcG g):Zir g:=⟨by have:=h.wl;omega,by have:=h.el;omega⟩
theorem ZoA {n:Nat}{a:Int} (h:Zh2 n a=true):0<=a/\a.toNat<n:=by
 unfold Zh2 at h
 simp only[Bool.and_eq_true,decide_eq_true_eq] at h
 omega
theorem ZpT {g:Zm} (h:Zit g=0):ZcG g:=by
 unfold Zit at h
 cases h1:decide (64<(g.work.length:Int)) with
 | true=>rw[h1] at h;simp at h
 | false=>
 cases h2:decide (256<(g.edges.length:Int)) with
 | true=>rw[h1,h2] at h;simp at h
 | false=>
 cases h3:g.work.any Ze7 with
 | true=>rw[h1,h2,h3] at h;simp at h
 | false=>
 cases h4:Zjv (Zlu g) 0 g.edges with
 | true=>rw[h1,h2,h3,h4] at h;simp at h
 | false=>
 have hE:∀e∈g.edges,∃i,Zlu g i e=false:=fun e he=>by
  obtain⟨i,hi⟩:=List.getElem?_of_mem he
  refine⟨i,?_⟩
  cases hb:Zlu g i e with
  | false=>rfl
  | true=>rw[(Zp5 _ _ 0).2 ⟨i,e,hi,by simpa using hb⟩] at h4;cases h4
 refine⟨by have:=of_decide_eq_false h1;omega,by have:=of_decide_eq_false h2;omega,fun x hx=>?_,fun e he=>?_,fun e he=>?_⟩
 ·have:=List.any_eq_false.1 h3 x hx
  unfold Ze7 at this
  simp only[Bool.or_eq_true,decide_eq_true_eq,not_or] at this
  omega
 ·obtain⟨i,hi⟩:=hE e he
  unfold Zlu at hi
  simp only[Bool.or_eq_false_iff,Bool.not_eq_false'] at hi
  exact ZoA hi.1
 ·obtain⟨i,hi⟩:=hE e he
  unfold Zlu at hi
  simp only[Bool.or_eq_false_iff,Bool.not_eq_false'] at hi
  exact ZoA hi.2.1
theorem Way.src_in {g:Zm} (h:ZcG g) {a b:Int} (w:Way g a b):0<=a/\a.toNat<g.work.length:=by
 induction w with
 | one he=>exact h.src _ he
 | more _ _ ih=>exact ih
theorem Zqk {g:Zm} (hg:Zi9 g):∀(n:Nat) (S:List Int),S.length<=n->S≠[]->∃m∈S,∀e∈g.edges,e.dst=m->e.src∉S:=by
 intro n
 induction n with
 | zero=>intro S h1 h2;exact absurd (List.length_eq_zero_iff.1 (by omega)) h2
 | succ n ih=>
  intro S h1 h2
  obtain⟨m,hm⟩:=List.exists_mem_of_ne_nil S h2
  classical
  by_cases hS:(S.filter fun x=>decide (Way g x m))=[]
  ·refine⟨m,hm,fun e he hd hs=>?_⟩
   have:e.src∈S.filter fun x=>decide (Way g x m):=List.mem_filter.2 ⟨hs,decide_eq_true (hd ▸ Way.one he)⟩
   rw[hS] at this
   cases this
  ·have hlt:(S.filter fun x=>decide (Way g x m)).length<S.length:=by
    refine Nat.lt_of_le_of_ne (List.length_filter_le _ _) fun he=>?_
    have:=List.length_filter_eq_length_iff.1 he m hm
    exact hg m (of_decide_eq_true this)
   obtain⟨k,hk,hk2⟩:=ih _ (by omega) hS
   obtain⟨k1,k2⟩:=List.mem_filter.1 hk
   refine⟨k,k1,fun e he hd hs=>hk2 e he hd (List.mem_filter.2 ⟨hs,decide_eq_true ?_⟩)⟩
   exact(hd ▸ Way.one he:Way g e.src k).trans (of_decide_eq_true k2)
def bAt (l:List Bool) (z:Int):Bool:=match l[z.toNat]? with | some b=>b | none=>false
def Zk4 (g:Zm) (done:List Bool) (i:Nat):Bool:=!(bAt done (i:Int)) && !(g.edges.any fun e=>(e.dst==(i:Int)) && !(bAt done e.src))
def Zla (g:Zm) (done:List Bool):Option Nat:=Zhx (fun i _=>Zk4 g done i) (fun i _=>some i) none 0 g.work
def Zkt (g:Zm):Nat->List Int->List Bool->Option (List Int)
 | 0,out,_=>some out
 | k+1,out,done=>(match Zla g done with | some i=>Zkt g k (out++[(i:Int)]) (done.set i true) | none=>none)
theorem Zqi {γ R S:Type} (p:Nat->γ->Bool) (out:Nat->γ->R) (fin:R) (F:R->S):∀(l:List γ) (i:Nat),F (Zhx p out fin i l)=Zhx p (fun i x=>F (out i x)) (F fin) i l
 | [],i=>rfl
 | x :: l,i=>by
  unfold Zhx
  cases p i x with
  | true=>rfl
  | false=>exact Zqi p out fin F l (i+1)
theorem ZoO {γ:Type} (p:Nat->γ->Bool):∀(l:List γ) (i k:Nat),Zhx p (fun i _=>some i) none i l=some k->i<=k/\k<i+l.length/\∃x,l[k-i]? = some x/\p k x=true
 | [],i,k,h=>by cases h
 | x :: l,i,k,h=>by
  unfold Zhx at h
  cases hp:p i x with
  | true=>
   rw[hp] at h
   cases h
   exact⟨Nat.le_refl _,by simp,x,by simp,hp⟩
  | false=>
   rw[hp] at h
   obtain⟨h1,h2,y,h3,h4⟩:=ZoO p l (i+1) k h
   refine⟨by omega,by simp only[List.length_cons];omega,y,?_,h4⟩
   rw[show k-i=(k-(i+1))+1 by omega]
   exact h3
theorem Zoq {γ:Type} (p:Nat->γ->Bool):∀(l:List γ) (i:Nat),Zhx p (fun i _=>some i) none i l=none->∀(j:Nat) x,l[j]? = some x->p (i+j) x=false
 | [],i,h,j,x,hx=>by cases hx
 | y :: l,i,h,j,x,hx=>by
  unfold Zhx at h
  cases hp:p i y with
  | true=>rw[hp] at h;cases h
  | false=>
   rw[hp] at h
   cases j with
   | zero=>cases hx;exact hp
   | succ j=>
    have:=Zoq p l (i+1) h j x hx
    rwa [show i+1+j=i+(j+1) by omega] at this
theorem Zsn {g:Zm}{done:List Bool} (hd:done.length=g.work.length) {z:Int} (h:0<=z/\z.toNat<g.work.length):ZG done z=some (bAt done z):=by
 have e:=List.getElem?_eq_getElem (show z.toNat<done.length by rw[hd];exact h.2)
 rw[ZrR h.1 e]
 unfold bAt
 rw[e]
theorem Zys {g:Zm} (h:ZcG g) (out:List Int) (ho:out.length<g.work.length) (done:List Bool) (hd:done.length=g.work.length) :
  lp (Zcc g (out,done)) 0=some (match Zla g done with | some i=>.inl (out++[(i:Int)],done.set i true) | none=>.inr ()):=by
 have key:=Zg6 g.work (Zcc g (out,done)) (fun i _=>Zk4 g done i) (fun i _=>.inl (out++[(i:Int)],done.set i true)) (.inr ()) (fun i x hi hx=>by
   have inner:=Zg6 g.edges (Zc9 g (out,done) (i:Int)) (fun _ e=>(e.dst==(i:Int)) && !(bAt done e.src)) (fun _ _=>.inl ()) (.inr ()) (fun k e hk he=>by
     simp only[Zc9,ZcJ hk,Zr he,Option.bind_some,ZN hk h.short.e,cond_true,Zsn hd (h.src e (List.mem_of_getElem? he))]
     cases (e.dst==(i:Int))<;>cases bAt done e.src<;>rfl) (by simp only[Zc9,ZcW];rfl)
   rw[Zfy,Zmh] at inner
   have hl:=h.wl
   simp only[Zcc,ZcJ hi,Zsn hd (z:=(i:Int)) ⟨by omega,by simpa using hi⟩,Option.bind_some,ZN hi h.short.w,cond_true,inner,Zc1 (show out.length+1<=1073741824 by omega),Int.toNat_natCast,Zk4]
   cases bAt done (i:Int)<;>cases g.edges.any (fun e=>(e.dst==(i:Int)) && !(bAt done e.src))<;>rfl) (by simp only[Zcc,ZcW];rfl)
 rw[key]
 unfold Zla
 exact congrArg some (Zqi (fun i _=>Zk4 g done i) (fun i _=>some i) none (fun o:Option Nat=>(match o with | some i=>(.inl (out++[(i:Int)],done.set i true):(List Int×List Bool)⊕Unit) | none=>.inr ())) g.work 0).symm
theorem ZsC {g:Zm} (h:ZcG g):∀(k:Nat) (out:List Int) (done:List Bool),out.length+k=g.work.length->done.length=g.work.length ->
  ∃r,lp (Zda g) (out,done)=some r/\(match Zkt g k out done with | some l=>r = .inr l | none=>∃l,r = .inl l)
 | 0,out,done,h1,h2=>by
  rw[ZbS]
  simp only[Zda,show out.length=g.work.length by omega,ZcW,cond_false]
  exact⟨_,rfl,rfl⟩
 | k+1,out,done,h1,h2=>by
  rw[ZbS]
  simp only[Zda,ZcJ (show out.length<g.work.length by omega),cond_true,Zys h out (by omega) done h2,Option.bind_some]
  unfold Zkt
  cases Zla g done with
  | none=>exact⟨_,rfl,_,rfl⟩
  | some i=>exact ZsC h k (out++[(i:Int)]) (done.set i true) (by rw[List.length_append];simp only[List.length_cons,List.length_nil];omega) (by rw[List.length_set];exact h2)
theorem Zsw {g:Zm} (h:ZcG g):ZdA g=some (match Zkt g g.work.length [] (List.replicate g.work.length false) with | some l=>(l,true) | none=>([],false)):=by
 obtain⟨r,e,hr⟩:=ZsC h g.work.length [] (List.replicate g.work.length false) (by simp) (by simp)
 have hl:=h.wl
 unfold ZdA
 rw[decide_eq_true (show(0:Int)<=(g.work.length:Int) by omega),decide_eq_true (show(g.work.length:Int)<=lim by show(g.work.length:Int)<=1073741824;omega),beq_self_eq_true]
 simp only[decide_true,Bool.and_true,cond_true,Int.toNat_natCast,e,Option.bind_some]
 cases ho:Zkt g g.work.length [] (List.replicate g.work.length false) with
 | some l=>rw[ho] at hr;simp only at hr;subst hr;rfl
 | none=>rw[ho] at hr;obtain⟨l,rfl⟩:=hr;rfl
structure Zdc (g:Zm) (out:List Int) (done:List Bool):Prop where
 dl:done.length=g.work.length
 mem:∀i:Nat,bAt done (i:Int)=true↔(i:Int)∈out
 inn:∀z∈out,0<=z/\z.toNat<g.work.length
 nod:out.Nodup
 topo:∀(i:Nat) (n:Int),out[i]? = some n->∀e∈g.edges,e.dst=n->∃j,j<i/\out[j]? = some e.src
theorem Zw0 {done:List Bool}{i:Nat} (hi:i<done.length) (z:Int) (hz:0<=z):bAt (done.set i true) z=(decide (z=(i:Int)) || bAt done z):=by
 unfold bAt
 rw[List.getElem?_set]
 by_cases h:i=z.toNat
 ·subst h
  rw[if_pos rfl,if_pos hi,decide_eq_true (show z=((z.toNat:Nat):Int) by omega)];rfl
 ·rw[if_neg h,decide_eq_false (show ¬z=(i:Int) by omega)];rfl
theorem Zdc.start (g:Zm):Zdc g [] (List.replicate g.work.length false):=by
 refine⟨by simp,fun i=>?_,by simp,by simp,by simp⟩
 unfold bAt
 rw[List.getElem?_replicate]
 by_cases h:((i:Int)).toNat<g.work.length
 ·rw[if_pos h];simp
 ·rw[if_neg h];simp
theorem Zdc.next {g:Zm} (h:ZcG g) {out:List Int}{done:List Bool} (o:Zdc g out done) {i:Nat} (hn:Zla g done=some i):Zdc g (out++[(i:Int)]) (done.set i true):=by
 obtain⟨_,hi,x,_,hp⟩:=ZoO _ _ _ _ hn
 rw[Nat.zero_add] at hi
 unfold Zk4 at hp
 simp only[Bool.and_eq_true,Bool.not_eq_true',List.any_eq_false,Bool.not_eq_true] at hp
 have hid:i<done.length:=by rw[o.dl];exact hi
 have hnot:(i:Int)∉out:=fun hm=>by have:=(o.mem i).2 hm;rw[hp.1] at this;cases this
 refine⟨by rw[List.length_set];exact o.dl,fun j=>?_,fun z hz=>?_,?_,fun k n hk e he hd=>?_⟩
 ·rw[Zw0 hid (j:Int) (by omega),Bool.or_eq_true,decide_eq_true_eq,o.mem,List.mem_append,List.mem_singleton]
  exact Or.comm
 ·rcases List.mem_append.1 hz with hz | hz
  ·exact o.inn z hz
  ·rw[List.mem_singleton] at hz;subst hz;exact⟨by omega,by simpa using hi⟩
 ·rw[List.nodup_append]
  refine⟨o.nod,by simp,fun a ha b hb=>?_⟩
  rw[List.mem_singleton] at hb
  subst hb
  exact fun hab=>hnot (hab ▸ ha)
 ·rcases Nat.lt_or_ge k out.length with hk2 | hk2
  ·rw[List.getElem?_append_left hk2] at hk
   obtain⟨j,h1,h2⟩:=o.topo k n hk e he hd
   exact⟨j,h1,by rw[List.getElem?_append_left (by omega)];exact h2⟩
  ·rw[List.getElem?_append_right hk2] at hk
   have hk0:k-out.length=0:=by
    rcases Nat.eq_zero_or_pos (k-out.length) with h0 | h0
    ·exact h0
    ·rw[List.getElem?_eq_none (by simp only[List.length_cons,List.length_nil];omega)] at hk;cases hk
   rw[hk0] at hk
   simp only[List.getElem?_cons_zero,Option.some.injEq] at hk
   subst hk
   have hs:=hp.2 e he
   rw[hd] at hs
   have hs:bAt done e.src=true:=by simpa using hs
   have hsr:=h.src e he
   have:=(o.mem e.src.toNat).1 (by rw[show((e.src.toNat:Nat):Int)=e.src by omega];exact hs)
   rw[show((e.src.toNat:Nat):Int)=e.src by omega] at this
   obtain⟨j,hj⟩:=List.getElem?_of_mem this
   have hjl:=(List.getElem?_eq_some_iff.1 hj).1
   exact⟨j,by omega,by rw[List.getElem?_append_left hjl];exact hj⟩
theorem Zdc.way {g:Zm}{out:List Int}{done:List Bool} (o:Zdc g out done) {a b:Int} (w:Way g a b):∀j:Nat,out[j]? = some b->∃i,i<j/\out[i]? = some a:=by
 induction w with
 | one he=>intro j hj;exact o.topo j _ hj _ he rfl
 | more _ he ih=>
  intro j hj
  obtain⟨i,h1,h2⟩:=o.topo j _ hj _ he rfl
  obtain⟨k,h3,h4⟩:=ih i h2
  exact⟨k,by omega,h4⟩
theorem ZtE {l:List Int} (h:l.Nodup) {i j:Nat}{a:Int} (h1:l[i]? = some a) (h2:l[j]? = some a):i=j:=by
 obtain⟨a1,a2⟩:=List.getElem?_eq_some_iff.1 h1
 obtain⟨b1,b2⟩:=List.getElem?_eq_some_iff.1 h2
 exact(List.getElem_inj h).1 (a2.trans b2.symm)
def ZvG (n:Nat) (done:List Bool):List Int:=((List.range n).filter fun i:Nat=>!bAt done (i:Int)).map fun i:Nat=>(i:Int)
theorem Zm7 {n:Nat}{done:List Bool}{i:Nat} (h1:i<n) (h2:bAt done (i:Int)=false):(i:Int)∈ZvG n done:=
 List.mem_map.2 ⟨i,List.mem_filter.2 ⟨List.mem_range.2 h1,by rw[h2];rfl⟩,rfl⟩
theorem ZtK {g:Zm} (h:ZcG g) (hg:Zi9 g) {out:List Int}{done:List Bool} (o:Zdc g out done) (i0:Nat) (hi0:i0<g.work.length) (hb:bAt done (i0:Int)=false):∃i,Zla g done=some i:=by
 cases hn:Zla g done with
 | some i=>exact⟨i,rfl⟩
 | none=>
  exfalso
  have hall:=Zoq _ _ _ hn
  obtain⟨m,hm,hm2⟩:=Zqk hg _ (ZvG g.work.length done) (Nat.le_refl _) (by
   intro he
   have:=Zm7 hi0 hb
   rw[he] at this;cases this)
  obtain⟨k,hk,rfl⟩:=List.mem_map.1 hm
  obtain⟨hk1,hk2⟩:=List.mem_filter.1 hk
  rw[List.mem_range] at hk1
  have hr:=hall k g.work[k] (List.getElem?_eq_getElem hk1)
  rw[Nat.zero_add] at hr
  unfold Zk4 at hr
  rw[hk2,Bool.true_and,Bool.not_eq_false',List.any_eq_true] at hr
  obtain⟨e,he,he2⟩:=hr
  simp only[Bool.and_eq_true,beq_iff_eq] at he2
  have hsr:=h.src e he
  refine hm2 e he he2.1 ?_
  have es:((e.src.toNat:Nat):Int)=e.src:=by omega
  rw[<- es]
  exact Zm7 hsr.2 (by rw[es];simpa using he2.2)
theorem ZvV {n:Nat}{out:List Int} (h1:out.Nodup) (h2:∀z∈out,0<=z/\z.toNat<n):(out.length<=n)/\(out.length=n->∀i:Nat,i<n->(i:Int)∈out):=by
 induction n generalizing out with
 | zero=>
  refine⟨?_,fun _ i hi=>absurd hi (by omega)⟩
  cases out with
  | nil=>simp
  | cons z l=>have:=h2 z (by simp);omega
 | succ n ih=>
  by_cases hm:(n:Int)∈out
  ·have e1:(out.erase (n:Int)).length=out.length-1:=List.length_erase_of_mem hm
   have pos:0<out.length:=List.length_pos_of_mem hm
   obtain⟨a,b⟩:=ih (out:=out.erase (n:Int)) (h1.erase _) (fun z hz=>by
    have hz2:=(List.Nodup.mem_erase_iff h1).1 hz
    have:=h2 z hz2.2
    have:=hz2.1
    omega)
   refine⟨by omega,fun hl i hi=>?_⟩
   by_cases hin:i=n
   ·subst hin;exact hm
   ·exact List.mem_of_mem_erase (b (by omega) i (by omega))
  ·obtain⟨a,b⟩:=ih (out:=out) h1 (fun z hz=>by
    have:=h2 z hz
    have:z≠(n:Int):=fun he=>hm (he ▸ hz)
    omega)
   exact⟨by omega,fun hl=>by omega⟩
theorem ZvT:∀(n:Nat) (out:List Int),(∀i:Nat,i<n->(i:Int)∈out)->n<=out.length
 | 0,out,h=>by omega
 | n+1,out,h=>by
  have hm:=h n (by omega)
  have e1:(out.erase (n:Int)).length=out.length-1:=List.length_erase_of_mem hm
  have pos:0<out.length:=List.length_pos_of_mem hm
  have:=ZvT n (out.erase (n:Int)) (fun i hi=>(List.mem_erase_of_ne (by omega)).2 (h i (by omega)))
  omega
theorem Zi3 {g:Zm} (h:ZcG g):∀(k:Nat) (out:List Int) (done:List Bool),Zdc g out done->out.length+k=g.work.length->(∀l,Zkt g k out done=some l->∃done',Zdc g l done'/\l.length=g.work.length)/\(Zi9 g->∃l,Zkt g k out done=some l)
 | 0,out,done,o,hl=>⟨fun l h=>by cases h;exact⟨done,o,by omega⟩,fun _=>⟨out,rfl⟩⟩
 | k+1,out,done,o,hl=>by
  unfold Zkt
  cases hn:Zla g done with
  | none=>
   refine⟨fun l h=>(by cases h),fun hg=>?_⟩
   exfalso
   have hex:∃i0,i0<g.work.length/\(i0:Int)∉out:=by
    apply Classical.byContradiction
    intro hc
    have hc2:∀i0,i0<g.work.length->(i0:Int)∈out:=fun i0 hi=>Classical.byContradiction fun hx=>hc ⟨i0,hi,hx⟩
    have sub:=ZvT g.work.length out hc2
    omega
   obtain⟨i0,h1,h2⟩:=hex
   obtain⟨i,hi⟩:=ZtK h hg o i0 h1 (by
    cases hb:bAt done (i0:Int) with
    | false=>rfl
    | true=>exact absurd ((o.mem i0).1 hb) h2)
   rw[hn] at hi
   cases hi
  | some i=>
   exact Zi3 h k _ _ (o.next h hn) (by rw[List.length_append];simp only[List.length_cons,List.length_nil];omega)
theorem Zwn {g:Zm} (h:ZcG g) {l:List Int}{done:List Bool} (o:Zdc g l done) (hl:l.length=g.work.length):Zi9 g:=by
 intro a w
 have ha:=w.src_in h
 have hm:=(ZvV o.nod o.inn).2 hl a.toNat ha.2
 rw[show((a.toNat:Nat):Int)=a by omega] at hm
 obtain⟨j,hj⟩:=List.getElem?_of_mem hm
 obtain⟨i,h1,h2⟩:=o.way w j hj
 have:=ZtE o.nod h2 hj
 omega
structure ZBr (g:Zm) (l:List Int):Prop where
 len:l.length=g.work.length
 all:∀i:Nat,i<g.work.length->(i:Int)∈l
 inn:∀z∈l,0<=z/\z.toNat<g.work.length
 nod:l.Nodup
 topo:∀(i:Nat) (n:Int),l[i]? = some n->∀e∈g.edges,e.dst=n->∃j,j<i/\l[j]? = some e.src
theorem Zs1 {g:Zm} (h:ZcG g) (hg:Zi9 g):∃l,ZdA g=some (l,true)/\ZBr g l:=by
 obtain⟨k1,k2⟩:=Zi3 h g.work.length [] _ (Zdc.start g) (by simp)
 obtain⟨l,hl⟩:=k2 hg
 obtain⟨done,o,hn⟩:=k1 l hl
 exact⟨l,by rw[Zsw h,hl],hn,(ZvV o.nod o.inn).2 hn,o.inn,o.nod,o.topo⟩
theorem Zwa {g:Zm} (h:ZcG g) (hg:¬Zi9 g):ZdA g=some ([],false):=by
 rw[Zsw h]
 cases ho:Zkt g g.work.length [] (List.replicate g.work.length false) with
 | none=>rfl
 | some l=>
  obtain⟨done,o,hn⟩:=(Zi3 h g.work.length [] _ (Zdc.start g) (by simp)).1 l ho
  exact absurd (Zwn h o hn) hg
noncomputable def Zuo (g:Zm):Bool:=@decide (Zi9 g) (Classical.propDecidable _)
theorem ZwI {g:Zm} (h:Zi9 g):Zuo g=true:=@decide_eq_true _ (Classical.propDecidable _) h
theorem Zsa {g:Zm} (h:¬Zi9 g):Zuo g=false:=@decide_eq_false _ (Classical.propDecidable _) h
noncomputable def ZaM (g:Zm):Int:=bif Zit g==0 then (bif Zuo g then 0 else 43) else Zit g
theorem Za0 {g:Zm} (h:ZaM g=0):ZcG g/\Zi9 g:=by
 unfold ZaM at h
 by_cases h0:Zit g=0
 ·rw[h0] at h
  refine⟨ZpT h0,Classical.byContradiction fun hn=>?_⟩
  rw[Zsa hn] at h
  simp at h
 ·rw[beq_false_of_ne h0] at h
  exact absurd h h0
theorem Zfs (g:Zm) (h:Zir g):ZdD g=some (ZaM g):=by
 have hw:=Zdq g.work (fun z0=>Zbn z0) Ze7 (fun x _=>ZtZ x) h.w
 unfold ZdD ZaM
 rw[hw,ZqV g h]
 by_cases h0:Zit g=0
 ·have hG:=ZpT h0
  rw[h0]
  unfold Zit at h0
  by_cases hg:Zi9 g
  ·obtain⟨l,e,_⟩:=Zs1 hG hg
   rw[e,ZwI hg]
   revert h0
   cases decide (64<(g.work.length:Int))<;>cases decide (256<(g.edges.length:Int))<;>cases g.work.any Ze7<;>cases Zjv (Zlu g) 0 g.edges<;>simp
  ·rw[Zwa hG hg,Zsa hg]
   revert h0
   cases decide (64<(g.work.length:Int))<;>cases decide (256<(g.edges.length:Int))<;>cases g.work.any Ze7<;>cases Zjv (Zlu g) 0 g.edges<;>simp
 ·rw[beq_false_of_ne h0]
  unfold Zit at h0 ⊢
  revert h0
  cases decide (64<(g.work.length:Int))<;>cases decide (256<(g.edges.length:Int))<;>cases g.work.any Ze7<;>cases Zjv (Zlu g) 0 g.edges<;>simp
theorem ZhZ {g:Zm} (hG:ZcG g):Zes g.edges g.work.length:=fun e he=>⟨hG.src e he,hG.dst e he⟩
theorem ZtB {g:Zm} (hG:ZcG g) (hA:Zi9 g) {left:List Int} (hl:left.length=g.work.length) (hr:∀x∈left,0<=x) (h:∃n,isN left n/\0<lf left n):∃n,isN left n/\0<lf left n/\Zhd g.edges left n:=by
 have pos:∀n,0<=lf left n:=fun n=>by
  unfold lf
  cases hx:left[n.toNat]? with
  | none=>simp
  | some x=>exact hr x (List.mem_of_getElem? hx)
 let S:List Int:=((List.range left.length).map fun i:Nat=>(i:Int)).filter fun n=>decide (0<lf left n)
 have mem:∀n,n∈S↔isN left n/\0<lf left n:=fun n=>by
  simp only[S,List.mem_filter,List.mem_map,List.mem_range,decide_eq_true_eq]
  constructor
  ·rintro ⟨⟨i,hi,rfl⟩,h2⟩
   exact⟨⟨by omega,by simpa using hi⟩,h2⟩
  ·rintro ⟨h1,h2⟩
   exact⟨⟨n.toNat,h1.2,Int.toNat_of_nonneg h1.1⟩,h2⟩
 obtain⟨n0,h0⟩:=h
 obtain⟨n,hn,hn2⟩:=Zqk hA S.length S (Nat.le_refl _) (fun he=>by
  have:=(mem n0).2 h0
  rw[he] at this
  cases this)
 obtain⟨h1,h2⟩:=(mem n).1 hn
 refine⟨n,h1,h2,fun e he hd=>?_⟩
 have hs:=hG.src e he
 have:=hn2 e he hd
 rw[mem] at this
 have h3:=pos e.src
 apply Classical.byContradiction
 intro hc
 exact this ⟨⟨hs.1,by rw[hl];exact hs.2⟩,by omega⟩
theorem Zmy {row:List Int}{n:Int} (h:n∈row) (hn:n ≠ -1):0<busy row:=by
 unfold busy
 exact List.countP_pos_iff.2 ⟨n,h,by simpa using hn⟩
theorem ZoR {g:Zm} (hG:ZcG g) (hA:Zi9 g) {left on row:List Int} (hl:left.length=g.work.length) (h:∃n,isN left n/\0<lf left n) (c:Zdy g.edges left on) (f:ZfK g.edges left on row) (hm:1<=on.length):0<busy row:=by
 obtain⟨n,h1,h2,h3⟩:=ZtB hG hA hl (fun x hx=>(c.rng x hx).1) h
 have n0:n ≠ -1:=by have:=h1.1;omega
 by_cases ho:n∈on
 ·obtain⟨i,hi⟩:=List.getElem?_of_mem ho
  exact Zmy (List.mem_of_getElem? (f.keep i n hi n0)) n0
 ·by_cases hr:n∈row
  ·exact Zmy hr n0
  ·by_cases hi : -1∈row
   ·exact absurd ⟨h1,h2,hr,h3⟩ (f.all hi n)
   ·have hlen:0<row.length:=by rw[f.len];omega
    refine Zmy (List.getElem_mem hlen) fun he=>hi ?_
    rw[<- he]
    exact List.getElem_mem hlen
theorem ZuU {g:Zm} (hG:ZcG g) (hA:Zi9 g) {need:List Int} (hn:need.length=g.work.length) (h:∀x∈need,1<=x/\x<=1000) {t:List (List Int)}{left on:List Int} (s:Sched g.edges need 1 t left on):ZcT t=t.length:=by
 have hE:Zes g.edges need.length:=by rw[hn];exact ZhZ hG
 induction s with
 | nil=>rfl
 | @snoc t left on row s hs f ih=>
  have c:=s.crew h hE
  have hl:=s.len
  have b:=ZoR hG hA (by rw[hl.1,hn]) hs c f (by rw[hl.2.1];exact Nat.le_refl _)
  have hr:row.length=1:=by rw[f.len,hl.2.1]
  have:busy row<=row.length:=List.countP_le_length
  have e:ZcT (t++[row])=ZcT t+busy row:=by
   unfold ZcT
   rw[List.map_append,List.sum_append]
   simp
  rw[e,ih,List.length_append,List.length_singleton]
  omega
theorem Sched.short {g:Zm} (hG:ZcG g) (hA:Zi9 g) {need:List Int} (hn:need.length=g.work.length) (h:∀x∈need,1<=x/\x<=1000) {m:Nat} (hm:1<=m) {t:List (List Int)}{left on:List Int} (s:Sched g.edges need m t left on):t.length<=ZcT t:=by
 have hE:Zes g.edges need.length:=by rw[hn];exact ZhZ hG
 induction s with
 | nil=>exact Nat.zero_le _
 | @snoc t left on row s hs f ih=>
  have c:=s.crew h hE
  have hl:=s.len
  have b:=ZoR hG hA (by rw[hl.1,hn]) hs c f (by rw[hl.2.1];exact hm)
  have e:ZcT (t++[row])=ZcT t+busy row:=by
   unfold ZcT
   rw[List.map_append,List.sum_append]
   simp
  rw[e,List.length_append,List.length_singleton]
  omega
theorem Zv7 {l:List Int} (h:∀x∈l,x=0):l.sum=0:=by
 induction l with
 | nil=>rfl
 | cons x l ih=>
  rw[List.sum_cons,h x (by simp),ih fun y hy=>h y (by simp[hy])]
  rfl
theorem Zqn (l:List Zo) (f:Zo->Option Bool) (p:Zo->Bool) (hf:∀x∈l,f x=some (p x)) (hl:l.length<9223372036854775808):Z4 l f=some (l.any p):=by
 unfold Z4 ZaZ
 refine Zia l p _ (fun i x hi hx=>?_) ?_
 ·simp only[Z5,ZcJ hi,Zr hx,Option.bind_some,hf x (List.mem_of_getElem? hx),ZN hi hl,cond_true]
  cases p x<;>rfl
 ·simp only[Z5,ZcW];rfl
theorem Zhm (l:List Int) (n:Int):(l.any fun x=>n==x)=decide (n∈l):=by
 rw[Bool.eq_iff_iff,List.any_eq_true,decide_eq_true_eq]
 constructor
 ·rintro ⟨x,hx,h⟩
  have:n=x:=by simpa using h
  rw[this];exact hx
 ·intro h
  exact⟨n,h,by simp⟩
theorem ZkC {γ R:Type} (l:List γ) (step:Int->Option (Int⊕R)) (fin:R) (h1:∀i x,i<l.length->l[i]? = some x->step (i:Int)=some (.inl ((i+1:Nat):Int))) (h2:step (l.length:Int)=some (.inr fin)):lp step 0=some fin:=by
 rw[Zg6 l step (fun _ _=>false) (fun _ _=>fin) fin h1 h2,Zfy]
 cases Zjv (fun _ _=>false) 0 l<;>rfl
theorem Zpp {n:Nat} (step:Int×List Int->Option ((Int×List Int)⊕List Int)) (p:Nat->Bool)
  (h1:∀(i:Nat) (out:List Int),i<n->out.length<=i->step ((i:Int),out)=some (.inl (((i+1:Nat):Int),bif p i then out++[(i:Int)] else out)))
  (h2:∀out,step ((n:Int),out)=some (.inr out)):lp step (0,[])=some (((List.range n).filter p).map fun i:Nat=>(i:Int)):=by
 have key:∀(k i:Nat) (out:List Int),i+k=n->out.length<=i->lp step ((i:Int),out)=some (out++((List.range' i k).filter p).map fun i:Nat=>(i:Int)):=by
  intro k
  induction k with
  | zero=>
   intro i out hi _
   have:i=n:=by omega
   subst this
   rw[ZbS,h2]
   simp
  | succ k ih=>
   intro i out hi ho
   rw[ZbS,h1 i out (by omega) ho]
   dsimp only
   rw[List.range'_succ]
   cases hp:p i with
   | true=>
    rw[cond_true,ih (i+1) _ (by omega) (by rw[List.length_append];simp;exact ho),List.filter_cons_of_pos hp,List.map_cons,List.append_assoc]
    rfl
   | false=>
    rw[cond_false,ih (i+1) _ (by omega) (by omega),List.filter_cons_of_neg (by rw[hp];decide)]
 have:=key n 0 [] (by omega) (by simp)
 rw[List.range_eq_range']
 simpa using this
theorem ZgT {n:Nat}{p:Nat->Bool}{z:Int}:(z∈((List.range n).filter p).map fun i:Nat=>(i:Int))↔0<=z/\z.toNat<n/\p z.toNat=true:=by
 rw[List.mem_map]
 constructor
 ·rintro ⟨i,hi,rfl⟩
  obtain⟨h1,h2⟩:=List.mem_filter.1 hi
  rw[List.mem_range] at h1
  exact⟨by omega,by simpa using h1,by simpa using h2⟩
 ·rintro ⟨h0,h1,h2⟩
  exact⟨z.toNat,List.mem_filter.2 ⟨List.mem_range.2 h1,h2⟩,Int.toNat_of_nonneg h0⟩
theorem Zlk {left:List Int}{n:Int} (h:isN left n):ZG left n=some (lf left n):=ZrR h.1 (Zin h.1 h.2)
theorem Zjg {c:Zz}{n:Int} (h:isN c.left n):Zcv c n=some (lf c.left n==0):=by
 unfold Zcv
 rw[Zlk h,Option.bind_some]
 cases lf c.left n==0<;>rfl
def Zi1 (E:List Zo) (left:List Int) (n:Int):Bool:=!(E.any fun e=>(e.dst==n) && !(lf left e.src==0))
theorem ZcP {E:List Zo}{left:List Int}{n:Int}:Zi1 E left n=true↔Zhd E left n:=by
 unfold Zi1 Zhd
 rw[Bool.not_eq_true',List.any_eq_false]
 constructor
 ·intro h e he hd
  have:=h e he
  rw[hd,beq_self_eq_true,Bool.true_and,Bool.not_eq_true',Bool.not_eq_false] at this
  simpa using this
 ·intro h e he hh
  simp only[Bool.and_eq_true,beq_iff_eq,Bool.not_eq_true',beq_eq_false_iff_ne] at hh
  exact hh.2 (h e he hh.1)
theorem ZmZ {g:Zm} (hG:ZcG g) {c:Zz} (hl:c.left.length=g.work.length) (n:Int):ZdC g c n=some (Zi1 g.edges c.left n):=by
 unfold ZdC
 rw[Zqn _ _ (fun e=>(e.dst==n) && !(lf c.left e.src==0)) (fun e he=>by
  have hs:=hG.src e he
  unfold ZcN
  rw[show(Zz.mk c.on c.left)=c from rfl,Zjg (c:=c) (n:=e.src) ⟨hs.1,by rw[hl];exact hs.2⟩]
  cases e.dst==n<;>cases lf c.left e.src==0<;>rfl) hG.short.e]
 unfold Zi1
 cases (g.edges.any fun e=>(e.dst==n) && !(lf c.left e.src==0))<;>rfl
structure Zbr (g:Zm) (left on:List Int):Prop where
 ll:left.length=g.work.length
 o1:1<=on.length
 o8:on.length<=8
 ok:Zdy g.edges left on
theorem ZqF (x:Int):Zbq x=some (decide (x<0) || decide (1000<x)):=by
 unfold Zbq
 cases decide (x<0)<;>cases decide (1000<x)<;>rfl
theorem ZwD {g:Zm} (hG:ZcG g) {left on:List Int} (c:Zbr g left on):ZcA g (Zz.mk on left)=some true:=by
 have o1:=c.o1
 have o8:=c.o8
 have hw:=hG.wl
 have ll:=c.ll
 unfold ZcA
 dsimp only
 rw[decide_eq_false (by omega),cond_false,decide_eq_false (by omega),cond_false,show((left.length:Int) != (g.work.length:Int))=false by rw[ll];simp,cond_false,
  Zdq left _ (fun x=>decide (x<0) || decide (1000<x)) (fun x _=>ZqF x) (by omega),Option.bind_some]
 have h0:(left.any fun x=>decide (x<0) || decide (1000<x))=false:=List.any_eq_false.2 fun x hx=>by
  have:=c.ok.rng x hx
  rw[decide_eq_false (by omega),decide_eq_false (by omega)]
  decide
 rw[h0,cond_false,ZkC on (ZaI g (Zz.mk on left)) (.inr ()) (fun i n hi hn=>?_) (by simp only[ZaI,ZcW];rfl),Option.bind_some]
 ·dsimp only
  rw[ZkC left (ZaK g (Zz.mk on left)) (.inr ()) (fun i x hi hx=>?_) (by simp only[ZaK,ZcW];rfl)]
  ·rfl
  ·have hin:isN left (i:Int):=⟨by omega,by simpa using hi⟩
   simp only[ZaK,ZcJ hi,cond_true,Zjg (c:=Zz.mk on left) hin,Option.bind_some,ZmZ hG (c:=Zz.mk on left) c.ll,ZN hi (show left.length<9223372036854775808 by omega)]
   cases hz:lf left (i:Int)==0 with
   | false=>rfl
   | true=>
    have:=ZcP.2 (c.ok.over _ hin (by simpa using hz))
    rw[this];rfl
 ·simp only[ZaI,ZcJ hi,cond_true,Zr hn,Option.bind_some,ZN hi (show on.length<9223372036854775808 by omega)]
  cases hz:n == -1 with
  | true=>rfl
  | false=>
   have hne:n ≠ -1:=by simpa using hz
   rcases c.ok.run n (List.mem_of_getElem? hn) with h | ⟨h1,h2,h3⟩
   ·exact absurd h hne
   ·have:=h1.1
    have:=h1.2
    have hm:(List.take i on).any (fun x=>n==x)=false:=List.any_eq_false.2 fun x hx hq=>by
     have:n=x:=by simpa using hq
     subst this
     obtain⟨j,hj⟩:=List.getElem?_of_mem hx
     have hjl:=(List.getElem?_eq_some_iff.1 hj).1
     rw[List.length_take] at hjl
     rw[List.getElem?_take,if_pos (by omega)] at hj
     have:=c.ok.one j i n hj hn hne
     omega
    simp only[cond_false,decide_eq_false (show ¬n<0 by omega),decide_eq_false (show ¬(left.length:Int)<=n by omega),Zjg (c:=Zz.mk on left) h1,Option.bind_some,show(lf left n==0)=false from beq_eq_false_iff_ne.2 (by omega),
     decide_eq_true (show(0:Int)<=(i:Int) by omega),Int.toNat_natCast,Nat.ble_eq_true_of_le (show i<=on.length by omega),cond_true,ZfI (List.take i on) n (by rw[List.length_take];omega),hm,ZmZ hG (c:=Zz.mk on left) c.ll,ZcP.2 h3]
theorem ZdI {g:Zm} (h:ZaM g=0) {left on:List Int} (c:Zbr g left on):ZaF g (Zz.mk on left)=some 0:=by
 obtain⟨hG,hA⟩:=Za0 h
 unfold ZaF
 rw[Zfs g hG.short,h,Option.bind_some]
 simp only[beq_self_eq_true,cond_true,ZwD hG c,Option.bind_some]
def Zbc (E:List Zo) (left on:List Int):List Int:=((List.range left.length).filter fun i:Nat=>!(lf left (i:Int)==0)&&(!(decide ((i:Int)∈on))&&Zi1 E left (i:Int))).map fun i:Nat=>(i:Int)
theorem ZlQ {g:Zm} (h:ZaM g=0) {left on:List Int} (c:Zbr g left on):ZbV g (Zz.mk on left)=some (Zbc g.edges left on):=by
 obtain⟨hG,hA⟩:=Za0 h
 have hw:=hG.wl
 have ll:=c.ll
 have o8:=c.o8
 unfold ZbV
 rw[ZdI h c,Option.bind_some]
 unfold ZdS
 rw[Zpp (n:=left.length) (ZcC g (Zz.mk on left)) (fun i:Nat=>!(lf left (i:Int)==0)&&(!(decide ((i:Int)∈on))&&Zi1 g.edges left (i:Int))) (fun i out hi ho=>?_) (fun out=>by simp only[ZcC,ZcW];rfl)]
 ·rfl
 ·have hin:isN left (i:Int):=⟨by omega,by simpa using hi⟩
  simp only[ZcC,ZcJ hi,cond_true,Zjg (c:=Zz.mk on left) hin,Option.bind_some,ZfI on (i:Int) (by omega),Zhm,ZmZ hG (c:=Zz.mk on left) c.ll,ZN hi (show left.length<9223372036854775808 by omega),Zc1 (show out.length+1<=1073741824 by omega)]
  cases lf left (i:Int)==0<;>cases decide ((i:Int)∈on)<;>cases Zi1 g.edges left (i:Int)<;>rfl
theorem ZmX {E:List Zo}{left on:List Int} (hr:∀x∈left,0<=x) {n:Int}:n∈Zbc E left on↔Rdy E left on n:=by
 unfold Zbc Rdy isN
 rw[ZgT]
 simp only[Bool.and_eq_true,Bool.not_eq_true',beq_eq_false_iff_ne,decide_eq_false_iff_not]
 constructor
 ·rintro ⟨h0,h1,h2,h3,h4⟩
  rw[Int.toNat_of_nonneg h0] at h2 h3 h4
  refine⟨⟨h0,h1⟩,?_,h3,ZcP.1 h4⟩
  have:0<=lf left n:=by
   rw[show lf left n=lf left n from rfl]
   exact hr _ (List.mem_of_getElem? (Zin h0 h1))
  omega
 ·rintro ⟨⟨h0,h1⟩,h2,h3,h4⟩
  refine⟨h0,h1,?_⟩
  rw[Int.toNat_of_nonneg h0]
  exact⟨by omega,h3,ZcP.2 h4⟩
theorem Zpr (E:List Zo) (left on:List Int):(Zbc E left on).Nodup:=by
 unfold Zbc
 exact List.Pairwise.map _ (fun a b (h:a≠b)=>by omega) (List.Pairwise.filter _ List.nodup_range)
def upd {α:Type} (f:Nat->α) (c:Nat) (v:α):Nat->α:=fun k=>if k=c then v else f k
theorem ZaS {α:Type} (f:Nat->α) (c:Nat) (v:α):upd f c v c=v:=if_pos rfl
theorem ZrM {α:Type} (f:Nat->α) {c k:Nat} (v:α) (h:k≠c):upd f c v k=f k:=if_neg h
structure Zb where
 T:Nat->Int
 B:Nat->Int
 R:Nat->Int->Int
 O:Nat->Int
 a:Nat->Int
 x:Nat->Int
 y:Nat->Int
 z:Nat->Int
 F:Nat->Nat
def vic (m c f:Nat):Nat:=(c+f) % m
def Zb.fresh (V:Zb) (c f:Nat):Zb:=⟨V.T,V.B,V.R,V.O,upd V.a c 0,upd V.x c 0,upd V.y c 0,upd V.z c 0,upd V.F c f⟩
def Zb.got (V:Zb) (c:Nat) (n:Int):Zb:=⟨V.T,V.B,V.R,upd V.O c n,upd V.a c 0,upd V.x c 0,upd V.y c 0,upd V.z c 0,upd V.F c 0⟩
def Zb.setT (V:Zb) (c:Nat) (n:Int):Zb:=⟨upd V.T c n,V.B,V.R,V.O,V.a,V.x,V.y,V.z,V.F⟩
def Zb.setB (V:Zb) (c:Nat) (n:Int):Zb:=⟨V.T,upd V.B c n,V.R,V.O,V.a,V.x,V.y,V.z,V.F⟩
def Zb.tk (V:Zb) (c:Nat) (a x y z:Int):Zb:=⟨V.T,V.B,V.R,V.O,upd V.a c a,upd V.x c x,upd V.y c y,upd V.z c z,V.F⟩
def Zae (m:Nat) (V:Zb) (c:Nat):Zb:=
 if V.F c=0 then
  if V.a c=0 then (V.setB c (V.B c-1)).tk c 1 (V.x c) (V.B c-1) (V.z c)
  else if V.a c=1 then
   if V.T c<V.y c then V.got c (V.R c (V.y c))
   else if V.T c=V.y c then V.tk c 2 (V.T c) (V.y c) (V.z c)
   else V.tk c 3 (V.T c) (V.y c) (V.z c)
  else if V.a c=2 then
   if V.T c=V.x c then (V.setT c (V.T c+1)).tk c 4 (V.x c) (V.y c) (V.R c (V.y c))
   else V.tk c 3 (V.x c) (V.y c) (V.z c)
  else if V.a c=4 then (V.setB c (V.y c+1)).got c (V.z c)
  else (V.setB c (V.y c+1)).fresh c (1 % m)
 else
  if V.a c=0 then V.tk c 1 (V.T (vic m c (V.F c))) (V.y c) (V.z c)
  else if V.a c=1 then
   if V.x c<V.B (vic m c (V.F c)) then V.tk c 2 (V.x c) (V.B (vic m c (V.F c))) (V.z c)
   else V.fresh c ((V.F c+1) % m)
  else if V.a c=2 then V.tk c 3 (V.x c) (V.y c) (V.R (vic m c (V.F c)) (V.x c))
  else if V.T (vic m c (V.F c))=V.x c then (V.setT (vic m c (V.F c)) (V.T (vic m c (V.F c))+1)).got c (V.z c)
  else V.fresh c ((V.F c+1) % m)
def Zb.be (V:Zb) (c:Nat):Int:=if V.F c=0/\0<V.a c then V.B c+1 else V.B c
def Zb.lo (V:Zb) (c:Nat):Int:=if V.F c=0/\V.a c=4 then V.T c-1 else V.T c
structure Pos (m:Nat) (V:Zb) (c:Nat):Prop where
 F:V.F c<m
 busy:V.O c ≠ -1->V.a c=0/\V.F c=0
 a0:0<=V.a c
 a4:V.a c<=4
 a3:V.F c≠0->V.a c<=3
 T0:0<=V.T c
 TB:V.T c<=V.be c
 B64:V.be c<=64
 o1:V.F c=0->0<V.a c->V.y c=V.B c
 o2:V.F c=0->V.a c=2->V.x c=V.y c/\V.x c<=V.T c
 o3:V.F c=0->V.a c=3∨V.a c=4->V.T c=V.B c+1
 o4:V.F c=0->V.a c=4->V.z c=V.R c (V.B c)
 t1:V.F c≠0->0<V.a c->0<=V.x c/\V.x c<=V.T (vic m c (V.F c))
 t2:V.F c≠0->2<=V.a c->V.x c=V.T (vic m c (V.F c))->V.T (vic m c (V.F c))<V.be (vic m c (V.F c))
 t3:V.F c≠0->V.a c=3->V.z c=V.R (vic m c (V.F c)) (V.x c)
 rx : -1<=V.x c/\V.x c<=64
 ry : -1<=V.y c/\V.y c<=64
def Item (m:Nat) (V:Zb) (c:Nat) (k:Int):Prop:=c<m/\V.lo c<=k/\k<V.be c
structure Znc (m:Nat) (base:Int->Prop) (V:Zb):Prop where
 rdy:∀c k,Item m V c k->base (V.R c k)/\∀i,i<m->V.O i≠V.R c k
 inj:∀c k c' k',Item m V c k->Item m V c' k'->V.R c k=V.R c' k'->c=c'/\k=k'
 all:∀n,base n->(∀i,i<m->V.O i≠n)->∃c k,Item m V c k/\V.R c k=n
structure Inv (m:Nat) (base:Int->Prop) (V:Zb):Prop where
 pos:∀c,c<m->Pos m V c
 items:Znc m base V
theorem Zpa {m:Nat} (hm:0<m) (c f:Nat):vic m c f<m:=Nat.mod_lt _ hm
theorem ZyG {m c f:Nat} (hc:c<m) (hf:f<m) (h0:f≠0):vic m c f≠c:=by
 unfold vic
 intro h
 by_cases hl:c+f<m
 ·rw[Nat.mod_eq_of_lt hl] at h;omega
 ·rw[Nat.mod_eq_sub_mod (by omega),Nat.mod_eq_of_lt (by omega)] at h;omega
theorem Zqm {m c:Nat} (hc:c<m):vic m c 0=c:=by unfold vic;rw[Nat.add_zero,Nat.mod_eq_of_lt hc]
theorem Pos.other {m:Nat}{V W:Zb}{c i:Nat} (hm:0<m) (all:∀j,j<m->V.T j<=V.be j) (p:Pos m V i) (hi:i<m)
  (hT:∀j,j<m->W.T j=V.T j∨(W.T j=V.T j+1/\V.T j<V.be j))
  (hb:∀j,j<m->W.be j=V.be j∨(j=c/\W.be j=V.be j-1/\V.T j<W.be j/\W.T j=V.T j))
  (hne:i≠c) (hF:W.F i=V.F i) (ha:W.a i=V.a i) (hx:W.x i=V.x i) (hy:W.y i=V.y i) (hz:W.z i=V.z i) (hO:W.O i=V.O i) (hB:W.B i=V.B i) (hR:W.R=V.R):Pos m W i:=by
 have hTi:=hT i hi
 have hbi:W.be i=V.be i:=by
  rcases hb i hi with h | ⟨h,_⟩
  ·exact h
  ·exact absurd h hne
 have hv:=Zpa hm i (V.F i)
 have hTv:=hT _ hv
 have hbv:=hb _ hv
 refine⟨by rw[hF];exact p.F,fun h=>?_,by rw[ha];exact p.a0,by rw[ha];exact p.a4,fun h=>?_,?_,?_,by rw[hbi];exact p.B64,fun h h2=>?_,fun h h2=>?_,fun h h2=>?_,fun h h2=>?_,fun h h2=>?_,fun h h2 h3=>?_,fun h h2=>?_,by rw[hx];exact p.rx,by rw[hy];exact p.ry⟩
 ·rw[hO] at h;rw[ha,hF];exact p.busy h
 ·rw[hF] at h;rw[ha];exact p.a3 h
 ·have:=p.T0;rcases hTi with h | h<;>omega
 ·have:=p.TB;rw[hbi];rcases hTi with h | h<;>omega
 ·rw[hF] at h;rw[ha] at h2;rw[hy,hB];exact p.o1 h h2
 ·rw[hF] at h;rw[ha] at h2
  have:=p.o2 h h2
  rw[hx,hy]
  refine⟨this.1,?_⟩
  rcases hTi with h | h<;>omega
 ·rw[hF] at h;rw[ha] at h2
  have h3:=p.o3 h h2
  rw[hB]
  rcases hTi with h4 | ⟨h4,h5⟩
  ·omega
  ·have:V.be i=V.B i+1:=by unfold Zb.be;rw[if_pos ⟨h,by omega⟩]
   omega
 ·rw[hF] at h;rw[ha] at h2;rw[hz,hR,hB];exact p.o4 h h2
 ·rw[hF] at h ⊢;rw[ha] at h2
  have:=p.t1 h h2
  rw[hx]
  refine⟨this.1,?_⟩
  rcases hTv with h | h<;>omega
 ·rw[hF] at h h3 ⊢;rw[ha] at h2;rw[hx] at h3
  have h5:=p.t1 h (by omega)
  rcases hTv with h4 | ⟨h4,_⟩
  ·have h6:=p.t2 h h2 (by omega)
   rcases hbv with h7 | ⟨_,h7,h8,_⟩<;>omega
  ·omega
 ·rw[hF] at h ⊢;rw[ha] at h2;rw[hz,hR,hx];exact p.t3 h h2
theorem Znc.same {m:Nat}{base:Int->Prop}{V W:Zb} (h:Znc m base V) (hlo:∀j,j<m->W.lo j=V.lo j) (hbe:∀j,j<m->W.be j=V.be j) (hO:∀j,j<m->W.O j=V.O j) (hR:W.R=V.R):Znc m base W:=by
 have it:∀c k,Item m W c k↔Item m V c k:=fun c k=>by
  unfold Item
  constructor
  ·rintro ⟨h1,h2,h3⟩;rw[hlo c h1] at h2;rw[hbe c h1] at h3;exact⟨h1,h2,h3⟩
  ·rintro ⟨h1,h2,h3⟩;rw[<- hlo c h1] at h2;rw[<- hbe c h1] at h3;exact⟨h1,h2,h3⟩
 refine⟨fun c k hi=>?_,fun c k c' k' h1 h2 h3=>?_,fun n hn ho=>?_⟩
 ·rw[hR]
  obtain⟨h1,h2⟩:=h.rdy c k ((it c k).1 hi)
  exact⟨h1,fun i hi=>by rw[hO i hi];exact h2 i hi⟩
 ·rw[hR] at h3
  exact h.inj c k c' k' ((it c k).1 h1) ((it c' k').1 h2) h3
 ·obtain⟨c,k,h1,h2⟩:=h.all n hn fun i hi=>by rw[<- hO i hi];exact ho i hi
  exact⟨c,k,(it c k).2 h1,by rw[hR];exact h2⟩
theorem Znc.take {m:Nat}{base:Int->Prop}{V W:Zb}{c v:Nat}{k0:Int} (h:Znc m base V) (hc:c<m) (hidle:V.O c = -1) (hb:∀n,base n->n ≠ -1) (hit:Item m V v k0)
  (it:∀i k,Item m W i k↔Item m V i k/\¬(i=v/\k=k0)) (hO:W.O c=V.R v k0) (hO2:∀j,j<m->j≠c->W.O j=V.O j) (hR:W.R=V.R):Znc m base W:=by
 refine⟨fun i k hi=>?_,fun i k i' k' h1 h2 h3=>?_,fun n hn ho=>?_⟩
 ·obtain⟨h1,h2⟩:=(it i k).1 hi
  obtain⟨h3,h4⟩:=h.rdy i k h1
  rw[hR]
  refine⟨h3,fun j hj=>?_⟩
  by_cases e:j=c
  ·rw[e,hO]
   intro he
   exact h2 (by have:=h.inj v k0 i k hit h1 he;exact⟨this.1.symm,this.2.symm⟩)
  ·rw[hO2 j hj e];exact h4 j hj
 ·rw[hR] at h3
  exact h.inj i k i' k' ((it i k).1 h1).1 ((it i' k').1 h2).1 h3
 ·have hne:n≠V.R v k0:=fun e=>ho c hc (by rw[hO,e])
  obtain⟨i,k,h1,h2⟩:=h.all n hn fun j hj=>by
   by_cases e:j=c
   ·rw[e,hidle];exact fun he=>hb n hn he.symm
   ·rw[<- hO2 j hj e];exact ho j hj
  refine⟨i,k,(it i k).2 ⟨h1,fun⟨e1,e2⟩=>hne ?_⟩,by rw[hR];exact h2⟩
  rw[<- h2,e1,e2]
theorem Pos.fresh0 {m:Nat}{W:Zb}{c:Nat} (hF:W.F c<m) (ha:W.a c=0) (hx:W.x c=0) (hy:W.y c=0) (hO:W.O c ≠ -1->W.F c=0) (h0:0<=W.T c) (h1:W.T c<=W.B c) (h2:W.B c<=64):Pos m W c:=by
 have hb:W.be c=W.B c:=by unfold Zb.be;rw[if_neg (by omega)]
 refine⟨hF,fun h=>⟨ha,hO h⟩,by omega,by omega,fun _=>by omega,h0,by omega,by omega,fun _ h=>by omega,fun _ h=>by omega,fun _ h=>by omega,fun _ h=>by omega,fun _ h=>by omega,fun _ h=>by omega,fun _ h=>by omega,by omega,by omega⟩
theorem Pos.owner {m:Nat}{W:Zb}{c:Nat} (hm:0<m) (hF:W.F c=0) (hO:W.O c = -1) (ha:1<=W.a c/\W.a c<=4) (hy:W.y c=W.B c) (h0:0<=W.T c) (h1:W.T c<=W.B c+1) (h2:W.B c+1<=64)
  (q2:W.a c=2->W.x c=W.y c/\W.x c<=W.T c) (q3:W.a c=3∨W.a c=4->W.T c=W.B c+1) (q4:W.a c=4->W.z c=W.R c (W.B c)) (rx : -1<=W.x c/\W.x c<=64):Pos m W c:=by
 have hb:W.be c=W.B c+1:=by unfold Zb.be;rw[if_pos ⟨hF,by omega⟩]
 refine⟨by omega,fun h=>absurd hO h,by omega,by omega,fun h=>absurd hF h,h0,by omega,by omega,fun _ _=>hy,fun _ h=>q2 h,fun _ h=>q3 h,fun _ h=>q4 h,fun h=>absurd hF h,fun h=>absurd hF h,fun h=>absurd hF h,rx,by omega⟩
theorem Pos.thief {m:Nat}{V W:Zb}{c:Nat} (p:Pos m V c) (hF:W.F c=V.F c) (h0:V.F c≠0) (hO:W.O c = -1) (hT:W.T=V.T) (hB:W.B=V.B) (hbe:∀j,W.be j=V.be j) (ha:1<=W.a c/\W.a c<=3) (q1:0<=W.x c/\W.x c<=V.T (vic m c (V.F c)))
  (q2:2<=W.a c->W.x c=V.T (vic m c (V.F c))->V.T (vic m c (V.F c))<V.be (vic m c (V.F c))) (q3:W.a c=3->W.z c=W.R (vic m c (V.F c)) (W.x c)) (rx:W.x c<=64) (ry : -1<=W.y c/\W.y c<=64):Pos m W c:=by
 have h0':W.F c≠0:=by rw[hF];exact h0
 refine⟨by rw[hF];exact p.F,fun h=>absurd hO h,by omega,by omega,fun _=>by omega,by rw[hT];exact p.T0,by rw[hT,hbe];exact p.TB,by rw[hbe];exact p.B64,fun h=>absurd h h0',fun h=>absurd h h0',fun h=>absurd h h0',fun h=>absurd h h0',?_,?_,?_,by omega,ry⟩
 ·intro _ _;rw[hF,hT];exact q1
 ·intro _ h h2;rw[hF,hT] at h2 ⊢;rw[hbe];exact q2 h h2
 ·intro _ h;rw[hF];exact q3 h
def Zr2 (m:Nat) (base:Int->Prop) (V W:Zb) (c:Nat):Prop:=
 (∀j,W.O j=V.O j)∨(base (W.O c)/\(∀i,i<m->V.O i≠W.O c)/\∀j,j≠c->W.O j=V.O j)
theorem Inv.step {m:Nat}{base:Int->Prop}{V:Zb}{c:Nat} (I:Inv m base V) (hb:∀n,base n->n ≠ -1) (hc:c<m) (hidle:V.O c = -1):Inv m base (Zae m V c)/\Zr2 m base V (Zae m V c) c/\(Zae m V c).R=V.R:=by
 have hm:0<m:=by omega
 have p:=I.pos c hc
 have TB:∀j,j<m->V.T j<=V.be j:=fun j hj=>(I.pos j hj).TB
 obtain⟨pF,_,pa0,pa4,pa3,pT0,pTB,pB64,po1,po2,po3,po4,pt1,pt2,pt3,prx,pry⟩:=p
 have quiet:∀W:Zb,W.R=V.R->W.T=V.T->(∀j,W.O j=V.O j)->(∀j,W.be j=V.be j)->(∀j,W.lo j=V.lo j)->(∀i,i≠c->W.F i=V.F i/\W.a i=V.a i/\W.x i=V.x i/\W.y i=V.y i/\W.z i=V.z i/\W.B i=V.B i)->Pos m W c->Inv m base W/\Zr2 m base V W c/\W.R=V.R:=by
  intro W hR hT hO hbe hlo hsame hp
  refine⟨⟨fun i hi=>?_,I.items.same (fun j _=>hlo j) (fun j _=>hbe j) (fun j _=>hO j) hR⟩,.inl hO,hR⟩
  by_cases e:i=c
  ·rw[e];exact hp
  ·obtain⟨s1,s2,s3,s4,s5,s6⟩:=hsame i e
   exact(I.pos i hi).other (c:=c) hm TB hi (fun j _=>.inl (by rw[hT])) (fun j _=>.inl (hbe j)) e s1 s2 s3 s4 s5 (hO i) s6 hR
 have hv:=Zpa hm c (V.F c)
 unfold Zae
 by_cases hF:V.F c=0
 ·rw[if_pos hF]
  by_cases a0:V.a c=0
  ·rw[if_pos a0]
   have hbc:V.be c=V.B c:=by unfold Zb.be;rw[if_neg (by omega)]
   refine quiet _ rfl rfl (fun _=>rfl) (fun j=>?_) (fun j=>?_) (fun i e=>?_) ?_
   ·by_cases e:j=c
    ·subst e;simp[Zb.be,Zb.tk,Zb.setB,upd,hF,a0]
    ·simp[Zb.be,Zb.tk,Zb.setB,upd,e]
   ·by_cases e:j=c
    ·subst e;simp[Zb.lo,Zb.tk,Zb.setB,upd,hF,a0]
    ·simp[Zb.lo,Zb.tk,Zb.setB,upd,e]
   ·simp[Zb.tk,Zb.setB,upd,e]
   ·refine Pos.owner hm hF hidle ?_ ?_ pT0 ?_ ?_ ?_ ?_ ?_ ?_<;>simp only[Zb.tk,Zb.setB,ZaS]
    ·omega
    ·omega
    ·omega
    ·intro h;omega
    ·intro h;omega
    ·intro h;omega
    ·exact prx
  rw[if_neg a0]
  have hbc:V.be c=V.B c+1:=by unfold Zb.be;rw[if_pos ⟨hF,by omega⟩]
  have hy:=po1 hF (by omega)
  by_cases a1:V.a c=1
  ·rw[if_pos a1]
   by_cases h1:V.T c<V.y c
   ·
    rw[if_pos h1]
    have it0:Item m V c (V.y c):=⟨hc,by unfold Zb.lo;rw[if_neg (by omega)];omega,by omega⟩
    have beW:∀j,j≠c->(V.got c (V.R c (V.y c))).be j=V.be j:=fun j e=>by simp[Zb.be,Zb.got,upd,e]
    have beC:(V.got c (V.R c (V.y c))).be c=V.B c:=by simp[Zb.be,Zb.got,upd]
    have loW:∀j,(V.got c (V.R c (V.y c))).lo j=V.lo j:=fun j=>by
     by_cases e:j=c
     ·subst e;simp[Zb.lo,Zb.got,upd,a1]
     ·simp[Zb.lo,Zb.got,upd,e]
    refine⟨⟨fun i hi=>?_,?_⟩,.inr ⟨?_,?_,fun j e=>by simp[Zb.got,upd,e]⟩,rfl⟩
    ·by_cases e:i=c
     ·rw[e]
      refine Pos.fresh0 ?_ ?_ ?_ ?_ ?_ pT0 ?_ ?_<;>simp only[Zb.got,ZaS]
      ·exact hm
      ·exact fun _=>trivial
      ·omega
      ·omega
     ·refine(I.pos i hi).other (c:=c) hm TB hi (fun j _=>.inl rfl) (fun j _=>?_) e ?_ ?_ ?_ ?_ ?_ ?_ rfl rfl
      ·by_cases e2:j=c
       ·subst e2
        exact .inr ⟨rfl,by rw[beC];omega,by rw[beC];omega,rfl⟩
       ·exact .inl (beW j e2)
      all_goals simp[Zb.got,upd,e]
    ·refine I.items.take hc hidle hb it0 (fun i k=>?_) (by simp[Zb.got,upd]) (fun j _ e=>by simp[Zb.got,upd,e]) rfl
     unfold Item
     rw[loW]
     by_cases e:i=c
     ·subst e;rw[beC]
      constructor
      ·rintro ⟨q1,q2,q3⟩;exact⟨⟨q1,q2,by omega⟩,fun h=>by omega⟩
      ·rintro ⟨⟨q1,q2,q3⟩,q4⟩;exact⟨q1,q2,by have:k≠V.y i:=fun h=>q4 ⟨rfl,h⟩;omega⟩
     ·rw[beW i e]
      constructor
      ·rintro ⟨q1,q2,q3⟩;exact⟨⟨q1,q2,q3⟩,fun h=>e h.1⟩
      ·rintro ⟨q,_⟩;exact q
    ·have:=(I.items.rdy c _ it0).1
     simpa [Zb.got,upd] using this
    ·have:=(I.items.rdy c _ it0).2
     simpa [Zb.got,upd] using this
   rw[if_neg h1]
   by_cases h2:V.T c=V.y c
   ·rw[if_pos h2]
    refine quiet _ rfl rfl (fun _=>rfl) (fun j=>?_) (fun j=>?_) (fun i e=>?_) ?_
    ·by_cases e:j=c
     ·subst e;simp[Zb.be,Zb.tk,upd,hF,a1]
     ·simp[Zb.be,Zb.tk,upd,e]
    ·by_cases e:j=c
     ·subst e;simp[Zb.lo,Zb.tk,upd,hF,a1]
     ·simp[Zb.lo,Zb.tk,upd,e]
    ·simp[Zb.tk,upd,e]
    ·refine Pos.owner hm hF hidle ?_ ?_ pT0 ?_ ?_ ?_ ?_ ?_ ?_<;>simp only[Zb.tk,ZaS]
     ·omega
     ·exact hy
     ·omega
     ·omega
     ·intro _;exact⟨h2,Int.le_refl _⟩
     ·intro h;omega
     ·intro h;omega
     ·omega
   ·rw[if_neg h2]
    refine quiet _ rfl rfl (fun _=>rfl) (fun j=>?_) (fun j=>?_) (fun i e=>?_) ?_
    ·by_cases e:j=c
     ·subst e;simp[Zb.be,Zb.tk,upd,hF,a1]
     ·simp[Zb.be,Zb.tk,upd,e]
    ·by_cases e:j=c
     ·subst e;simp[Zb.lo,Zb.tk,upd,hF,a1]
     ·simp[Zb.lo,Zb.tk,upd,e]
    ·simp[Zb.tk,upd,e]
    ·refine Pos.owner hm hF hidle ?_ ?_ pT0 ?_ ?_ ?_ ?_ ?_ ?_<;>simp only[Zb.tk,ZaS]
     ·omega
     ·exact hy
     ·omega
     ·omega
     ·intro h;omega
     ·intro h;omega
     ·intro h;omega
     ·omega
  rw[if_neg a1]
  by_cases a2:V.a c=2
  ·rw[if_pos a2]
   obtain⟨x1,x2⟩:=po2 hF a2
   by_cases h1:V.T c=V.x c
   ·
    rw[if_pos h1]
    have beW:∀j,((V.setT c (V.T c+1)).tk c 4 (V.x c) (V.y c) (V.R c (V.y c))).be j=V.be j:=fun j=>by
     by_cases e:j=c
     ·subst e;simp[Zb.be,Zb.tk,Zb.setT,upd,hF,a2]
     ·simp[Zb.be,Zb.tk,Zb.setT,upd,e]
    have loW:∀j,((V.setT c (V.T c+1)).tk c 4 (V.x c) (V.y c) (V.R c (V.y c))).lo j=V.lo j:=fun j=>by
     by_cases e:j=c
     ·subst e;simp[Zb.lo,Zb.tk,Zb.setT,upd,hF,a2]
     ·simp[Zb.lo,Zb.tk,Zb.setT,upd,e]
    refine⟨⟨fun i hi=>?_,I.items.same (fun j _=>loW j) (fun j _=>beW j) (fun j _=>rfl) rfl⟩,.inl fun _=>rfl,rfl⟩
    by_cases e:i=c
    ·rw[e]
     refine Pos.owner hm hF hidle ?_ ?_ ?_ ?_ ?_ ?_ ?_ ?_ ?_<;>simp only[Zb.tk,Zb.setT,ZaS]
     ·omega
     ·exact hy
     ·omega
     ·omega
     ·omega
     ·intro h;omega
     ·intro h;omega
     ·intro h;rw[hy]
     ·exact prx
    ·refine(I.pos i hi).other (c:=c) hm TB hi (fun j _=>?_) (fun j _=>.inl (beW j)) e ?_ ?_ ?_ ?_ ?_ rfl ?_ rfl
     ·by_cases e2:j=c
      ·subst e2
       refine .inr ⟨by simp[Zb.tk,Zb.setT,upd],by omega⟩
      ·exact .inl (by simp[Zb.tk,Zb.setT,upd,e2])
     all_goals simp[Zb.tk,Zb.setT,upd,e]
   ·rw[if_neg h1]
    refine quiet _ rfl rfl (fun _=>rfl) (fun j=>?_) (fun j=>?_) (fun i e=>?_) ?_
    ·by_cases e:j=c
     ·subst e;simp[Zb.be,Zb.tk,upd,hF,a2]
     ·simp[Zb.be,Zb.tk,upd,e]
    ·by_cases e:j=c
     ·subst e;simp[Zb.lo,Zb.tk,upd,hF,a2]
     ·simp[Zb.lo,Zb.tk,upd,e]
    ·simp[Zb.tk,upd,e]
    ·refine Pos.owner hm hF hidle ?_ ?_ pT0 ?_ ?_ ?_ ?_ ?_ ?_<;>simp only[Zb.tk,ZaS]
     ·omega
     ·exact hy
     ·omega
     ·omega
     ·intro h;omega
     ·intro h;omega
     ·intro h;omega
     ·exact prx
  rw[if_neg a2]
  have hT:=po3 hF (by omega)
  by_cases a4:V.a c=4
  ·
   rw[if_pos a4]
   have hz:=po4 hF a4
   have it0:Item m V c (V.B c):=⟨hc,by unfold Zb.lo;rw[if_pos ⟨hF,a4⟩];omega,by omega⟩
   have beW:∀j,j≠c->((V.setB c (V.y c+1)).got c (V.z c)).be j=V.be j:=fun j e=>by simp[Zb.be,Zb.got,Zb.setB,upd,e]
   have beC:((V.setB c (V.y c+1)).got c (V.z c)).be c=V.B c+1:=by simp[Zb.be,Zb.got,Zb.setB,upd];omega
   have loC:((V.setB c (V.y c+1)).got c (V.z c)).lo c=V.T c:=by simp[Zb.lo,Zb.got,Zb.setB,upd]
   have loW:∀j,j≠c->((V.setB c (V.y c+1)).got c (V.z c)).lo j=V.lo j:=fun j e=>by simp[Zb.lo,Zb.got,Zb.setB,upd,e]
   have loV:V.lo c=V.T c-1:=by unfold Zb.lo;rw[if_pos ⟨hF,a4⟩]
   refine⟨⟨fun i hi=>?_,?_⟩,.inr ⟨?_,?_,fun j e=>by simp[Zb.got,Zb.setB,upd,e]⟩,rfl⟩
   ·by_cases e:i=c
    ·rw[e]
     refine Pos.fresh0 ?_ ?_ ?_ ?_ ?_ pT0 ?_ ?_<;>simp only[Zb.got,Zb.setB,ZaS]
     ·exact hm
     ·exact fun _=>trivial
     ·omega
     ·omega
    ·refine(I.pos i hi).other (c:=c) hm TB hi (fun j _=>.inl rfl) (fun j _=>?_) e ?_ ?_ ?_ ?_ ?_ ?_ ?_ rfl
     ·by_cases e2:j=c
      ·subst e2
       exact .inl (by rw[beC];omega)
      ·exact .inl (beW j e2)
     all_goals simp[Zb.got,Zb.setB,upd,e]
   ·refine I.items.take hc hidle hb it0 (fun i k=>?_) (by simp[Zb.got,Zb.setB,upd];exact hz) (fun j _ e=>by simp[Zb.got,Zb.setB,upd,e]) rfl
    unfold Item
    by_cases e:i=c
    ·subst e;rw[beC,loC,loV]
     constructor
     ·rintro ⟨q1,q2,q3⟩;omega
     ·rintro ⟨⟨q1,q2,q3⟩,q4⟩
      exact absurd ⟨rfl,by omega⟩ q4
    ·rw[beW i e,loW i e]
     constructor
     ·rintro ⟨q1,q2,q3⟩;exact⟨⟨q1,q2,q3⟩,fun h=>e h.1⟩
     ·rintro ⟨q,_⟩;exact q
   ·have:=(I.items.rdy c _ it0).1
    simp only[Zb.got,Zb.setB,ZaS]
    rw[hz];exact this
   ·have:=(I.items.rdy c _ it0).2
    simp only[Zb.got,Zb.setB,ZaS]
    rw[hz];exact this
  ·rw[if_neg a4]
   have a3:V.a c=3:=by omega
   refine quiet _ rfl rfl (fun _=>rfl) (fun j=>?_) (fun j=>?_) (fun i e=>?_) ?_
   ·by_cases e:j=c
    ·subst e
     rw[hbc]
     simp[Zb.be,Zb.fresh,Zb.setB,upd]
     omega
    ·simp[Zb.be,Zb.fresh,Zb.setB,upd,e]
   ·by_cases e:j=c
    ·subst e;simp[Zb.lo,Zb.fresh,Zb.setB,upd,a3]
    ·simp[Zb.lo,Zb.fresh,Zb.setB,upd,e]
   ·simp[Zb.fresh,Zb.setB,upd,e]
   ·refine Pos.fresh0 ?_ ?_ ?_ ?_ ?_ pT0 ?_ ?_<;>simp only[Zb.fresh,Zb.setB,ZaS]
    ·exact Nat.mod_lt _ hm
    ·exact fun h=>absurd hidle h
    ·omega
    ·omega
 ·rw[if_neg hF]
  have pv:=I.pos _ hv
  have hbc:V.be c=V.B c:=by unfold Zb.be;rw[if_neg (by omega)]
  have fresh:∀f,f<m->Inv m base (V.fresh c f)/\Zr2 m base V (V.fresh c f) c/\(V.fresh c f).R=V.R:=fun f hf=>by
   refine quiet _ rfl rfl (fun _=>rfl) (fun j=>?_) (fun j=>?_) (fun i e=>?_) ?_
   ·by_cases e:j=c
    ·subst e;rw[hbc];simp[Zb.be,Zb.fresh,upd]
    ·simp[Zb.be,Zb.fresh,upd,e]
   ·by_cases e:j=c
    ·subst e;simp[Zb.lo,Zb.fresh,upd,hF]
    ·simp[Zb.lo,Zb.fresh,upd,e]
   ·simp[Zb.fresh,upd,e]
   ·refine Pos.fresh0 ?_ ?_ ?_ ?_ ?_ pT0 ?_ ?_<;>simp only[Zb.fresh,ZaS]
    ·exact hf
    ·exact fun h=>absurd hidle h
    ·omega
    ·omega
  have tk:∀a x y z,1<=a/\a<=3->(0<=x/\x<=V.T (vic m c (V.F c)))->(2<=a->x=V.T (vic m c (V.F c))->V.T (vic m c (V.F c))<V.be (vic m c (V.F c)))->(a=3->z=V.R (vic m c (V.F c)) x)->x<=64->(-1<=y/\y<=64)->Inv m base (V.tk c a x y z)/\Zr2 m base V (V.tk c a x y z) c/\(V.tk c a x y z).R=V.R:=fun a x y z q0 q1 q2 q3 q4 q5=>by
   have hbe:∀j,(V.tk c a x y z).be j=V.be j:=fun j=>by
    by_cases e:j=c
    ·subst e;rw[hbc];simp[Zb.be,Zb.tk,upd,hF]
    ·simp[Zb.be,Zb.tk,upd,e]
   refine quiet _ rfl rfl (fun _=>rfl) hbe (fun j=>?_) (fun i e=>?_) ?_
   ·by_cases e:j=c
    ·subst e;simp[Zb.lo,Zb.tk,upd,hF]
    ·simp[Zb.lo,Zb.tk,upd,e]
   ·simp[Zb.tk,upd,e]
   ·refine Pos.thief (I.pos c hc) rfl hF hidle rfl rfl hbe ?_ ?_ ?_ ?_ ?_ ?_<;>simp only[Zb.tk,ZaS]
    ·exact q0
    ·exact q1
    ·exact q2
    ·exact q3
    ·exact q4
    ·exact q5
  have bv:V.B (vic m c (V.F c))<=V.be (vic m c (V.F c)) /\ -1<=V.B (vic m c (V.F c)):=by
   have h1:=pv.T0
   have h2:=pv.TB
   unfold Zb.be at h2 ⊢
   split at h2<;>rename_i hh<;>simp only[hh]<;>simp<;>omega
  have b64:=pv.B64
  have t64:=pv.TB
  by_cases a0:V.a c=0
  ·rw[if_pos a0]
   exact tk 1 _ _ _ (by omega) ⟨pv.T0,Int.le_refl _⟩ (fun h=>by omega) (fun h=>by omega) (by omega) pry
  rw[if_neg a0]
  have x0:=pt1 hF (by omega)
  by_cases a1:V.a c=1
  ·rw[if_pos a1]
   by_cases h1:V.x c<V.B (vic m c (V.F c))
   ·rw[if_pos h1]
    exact tk 2 _ _ _ (by omega) x0 (fun _ h=>by omega) (fun h=>by omega) prx.2 (by omega)
   ·rw[if_neg h1]
    exact fresh _ (Nat.mod_lt _ hm)
  rw[if_neg a1]
  by_cases a2:V.a c=2
  ·rw[if_pos a2]
   exact tk 3 _ _ _ (by omega) x0 (fun _ h=>pt2 hF (by omega) h) (fun _=>rfl) prx.2 pry
  rw[if_neg a2]
  have a3:V.a c=3:=by have:=pa3 hF;omega
  by_cases h1:V.T (vic m c (V.F c))=V.x c
  ·
   rw[if_pos h1]
   have hlt:=pt2 hF (by omega) h1.symm
   have hz:=pt3 hF a3
   have vne:=ZyG hc pF hF
   have hcv:c≠vic m c (V.F c):=fun e=>vne e.symm
   generalize hvv:vic m c (V.F c)=v at *
   have loV:V.lo v=V.T v:=by
    unfold Zb.lo
    by_cases hh:V.F v=0/\V.a v=4
    ·exfalso
     have:=pv.o3 hh.1 (.inr hh.2)
     have:V.be v=V.B v+1:=by unfold Zb.be;rw[if_pos ⟨hh.1,by omega⟩]
     omega
    ·rw[if_neg hh]
   have it0:Item m V v (V.T v):=⟨hv,by omega,hlt⟩
   have beW:∀j,((V.setT v (V.T v+1)).got c (V.z c)).be j=V.be j:=fun j=>by
    by_cases e:j=c
    ·subst e;rw[hbc];simp[Zb.be,Zb.got,Zb.setT,upd]
    ·simp[Zb.be,Zb.got,Zb.setT,upd,e]
   have loW:∀j,j≠v->((V.setT v (V.T v+1)).got c (V.z c)).lo j=V.lo j:=fun j e=>by
    by_cases e2:j=c
    ·subst e2;simp[Zb.lo,Zb.got,Zb.setT,upd,hF,e]
    ·simp[Zb.lo,Zb.got,Zb.setT,upd,e,e2]
   have loC:((V.setT v (V.T v+1)).got c (V.z c)).lo v=V.T v+1:=by
    have hn:¬(V.F v=0/\V.a v=4):=fun hh=>by
     have:V.lo v=V.T v-1:=by unfold Zb.lo;rw[if_pos hh]
     omega
    simp[Zb.lo,Zb.got,Zb.setT,upd,vne]
    intro h h2
    exact absurd ⟨h,h2⟩ hn
   refine⟨⟨fun i hi=>?_,?_⟩,.inr ⟨?_,?_,fun j e=>by simp[Zb.got,Zb.setT,upd,e]⟩,rfl⟩
   ·by_cases e:i=c
    ·rw[e]
     refine Pos.fresh0 ?_ ?_ ?_ ?_ ?_ ?_ ?_ ?_<;>simp only[Zb.got,Zb.setT,ZaS,ZrM _ _ hcv]
     ·exact hm
     ·exact fun _=>trivial
     ·exact pT0
     ·omega
     ·omega
    ·refine(I.pos i hi).other (c:=c) hm TB hi (fun j _=>?_) (fun j _=>.inl (beW j)) e ?_ ?_ ?_ ?_ ?_ ?_ rfl rfl
     ·by_cases e2:j=v
      ·subst e2
       exact .inr ⟨by simp[Zb.got,Zb.setT,upd],hlt⟩
      ·exact .inl (by simp[Zb.got,Zb.setT,upd,e2])
     all_goals simp[Zb.got,Zb.setT,upd,e]
   ·refine I.items.take hc hidle hb it0 (fun i k=>?_) (by simp[Zb.got,Zb.setT,upd];rw[hz,h1]) (fun j _ e=>by simp[Zb.got,Zb.setT,upd,e]) rfl
    unfold Item
    rw[beW]
    by_cases e:i=v
    ·subst e;rw[loC,loV]
     constructor
     ·rintro ⟨q1,q2,q3⟩;exact⟨⟨q1,by omega,q3⟩,fun h=>by omega⟩
     ·rintro ⟨⟨q1,q2,q3⟩,q4⟩;exact⟨q1,by have:k≠V.T i:=fun h=>q4 ⟨rfl,h⟩;omega,q3⟩
    ·rw[loW i e]
     constructor
     ·rintro ⟨q1,q2,q3⟩;exact⟨⟨q1,q2,q3⟩,fun h=>e h.1⟩
     ·rintro ⟨q,_⟩;exact q
   ·have:=(I.items.rdy v _ it0).1
    simp only[Zb.got,Zb.setT,ZaS]
    rw[hz,<- h1];exact this
   ·have:=(I.items.rdy v _ it0).2
    simp only[Zb.got,Zb.setT,ZaS]
    rw[hz,<- h1];exact this
  ·rw[if_neg h1]
   exact fresh _ (Nat.mod_lt _ hm)
end Go.Proofs.YtgcfmiajkbbmeaaGreat
