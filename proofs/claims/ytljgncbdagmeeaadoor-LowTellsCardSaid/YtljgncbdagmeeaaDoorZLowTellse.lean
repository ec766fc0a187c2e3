/- LowTells: part 5 of 6 of the proof. -/
import Derived.Test.YtljgncbdagmeeaaDoorZLowTellsd
import Derived.KernelRfl
set_option maxRecDepth 100000
set_option maxHeartbeats 40000000
namespace Go.Proofs.YtljgncbdagmeeaaDoor
open Go Go.Proofs.YtljgncbdagmeeaaDoorE
set_option linter.unusedVariables false
set_option linter.unusedSimpArgs false
def tch (d:Zk) (n:Nat):List Int:=tl d (n:Int) 0 99
theorem Znq {d:Zk} (g:ZmS d) (n:Nat):ZfZ d (n:Int) (tch d n):=Zs4 g (n:Int)
theorem ZAE {d:Zk} (hs:Zgx d) (hf:d.futures.length≤1000) (hc:ZfX d=0) (n:Nat):Zc2 d (n:Int)=some (tch d n):=by
 obtain⟨r,h1,h2⟩:=Zup d hs hf hc (n:Int)
 rw[h1,h2.eq (Znq (ZqF hc) n)]
theorem ZvJ {d:Zk} (hf:d.futures.length≤1000) (n:Nat):Zdm d (n:Int)=some (tch d n):=ZrF d hf (n:Int)
abbrev nt (d:Zk) (n:Nat):Nat:=(tch d n).length
theorem ZpU {d:Zk} (g:Zc1 d) (n:Nat):nt d n≤16:=Nat.le_trans (ZrV (Znq g.g n)) g.fl
def cut (d:Zk) (n i:Nat):Int:=if i=0 then 0 else match (tch d n)[i-1]? with | some z=>ZdW d.futures z | none=>Ze6 d.parts (n:Int)
def Zfc (d:Zk) (n k:Nat):List Int:=(List.range k).map fun i=>cut d n (i+1)-cut d n i
def Z4 (d:Zk):Nat→Nat
 | 0=>0
 | n+1=>Z4 d n+(nt d n+1)
theorem ZdF {d:Zk} (g:Zc1 d):∀n,Z4 d n≤17*n
 | 0=>Nat.le_refl _
 | n+1=>by have:=ZdF g n; have:=ZpU g n; show Z4 d n+(nt d n+1)≤_; omega
theorem Zgz {d:Zk} {n i:Nat} (g:ZmS d) (hi:i<nt d n):∃f,ZE (tch d n) (i:Int)=some (tch d n)[i]∧ZE d.futures (tch d n)[i]=some f∧d.futures[((tch d n)[i]).toNat]? = some f∧f.user=(n:Int)∧f.pos=cut d n (i+1)∧f∈d.futures:=by
 obtain⟨j,f,h1,h2,h3⟩:=(Znq g n).mem _ |>.1 (List.getElem_mem hi)
 refine⟨f,Z1 (List.getElem?_eq_getElem hi),?_,?_,h2,?_,List.mem_of_getElem? h1⟩
 ·rw[h3]; exact Z1 h1
 ·rw[h3,Int.toNat_natCast]; exact h1
 ·unfold cut
  rw[if_neg (by omega),Nat.add_sub_cancel,List.getElem?_eq_getElem hi]
  show _=ZdW d.futures (tch d n)[i]
  unfold ZdW
  rw[h3,Int.toNat_natCast,h1]
theorem ZpE {d:Zk} (g:ZmS d) (n i:Nat):0≤cut d n i∧cut d n i≤100:=by
 unfold cut
 split
 ·omega
 ·have wb:0≤Ze6 d.parts (n:Int)∧Ze6 d.parts (n:Int)≤100:=by
   refine⟨?_,ZkX g _⟩
   unfold Ze6
   split
   ·rename_i p hp; have:=g.w p (List.mem_of_getElem? hp); omega
   ·omega
  split
  ·rename_i z hz
   obtain⟨j,f,h1,h2,h3⟩:=(Znq g n).mem z |>.1 (List.mem_of_getElem? hz)
   have:=g.f f (List.mem_of_getElem? h1)
   have:=ZkX g f.user
   unfold ZdW
   rw[h3,Int.toNat_natCast,h1]
   show 0≤f.pos∧f.pos≤100
   omega
  ·exact wb
theorem ZqQ (d:Zk) (n:Nat):cut d n (nt d n+1)=Ze6 d.parts (n:Int):=by
 unfold cut
 rw[if_neg (by omega),Nat.add_sub_cancel,List.getElem?_eq_none (Nat.le_refl _)]
theorem Zif (d:Zk) (n k:Nat):Zfc d n (k+1)=Zfc d n k++[cut d n (k+1)-cut d n k]:=by unfold Zfc; rw[List.range_succ,List.map_append]; rfl
theorem ZfW (d:Zk) (n k:Nat):(Zfc d n k).length=k:=by unfold Zfc; simp
def Ze4 (d:Zk) (n:Nat):List Int:=Zfc d n (nt d n+1)
theorem ZqT {d:Zk} {n:Nat} (hn:n<d.parts.length):∃x,ZE d.parts (n:Int)=some x∧x.work=Ze6 d.parts (n:Int):=by
 refine⟨d.parts[n],Z1 (List.getElem?_eq_getElem hn),?_⟩
 unfold Ze6
 rw[Int.toNat_natCast,List.getElem?_eq_getElem hn]
theorem Zpl {d:Zk} (g:Zc1 d) {n:Nat} (hn:n<d.parts.length):Ze2 d (n:Int)=some (Ze4 d n):=by
 have hnt:=ZpU g n
 have key:∀(k i:Nat),i+k=nt d n→lp (ZcQ d (tch d n)) (cut d n i,(i:Int),Zfc d n i)=some (cut d n (nt d n),Zfc d n (nt d n)):=by
  intro k
  induction k with
  | zero=>
   intro i hi
   have:i=nt d n:=by omega
   subst this
   rw[ZaK]
   simp only[ZcQ,show((nt d n:Nat):Int)=((tch d n).length:Int) from rfl,Zc9,cond_false]
  | succ k ih=>
   intro i hi
   have hi':i<nt d n:=by omega
   obtain⟨f,h1,h2,_,_,h5,_⟩:=Zgz g.g hi'
   have b0:=ZpE g.g n i
   have b1:=ZpE g.g n (i+1)
   rw[ZaK]
   simp only[ZcQ,Zcw (show i<(tch d n).length from hi'),cond_true,h1,h2,Option.bind_some,h5,ZH hi' (show nt d n<9223372036854775808 by omega),Zf9 (show(Zfc d n i).length+1≤1073741824 by rw[ZfW]; omega),ZbA (show -9223372036854775808≤cut d n (i+1)-cut d n i by omega) (by omega)]
   rw[← Zif]
   exact ih (i+1) (by omega)
 have k0:=key (nt d n) 0 (by omega)
 obtain⟨x,x1,x2⟩:=ZqT hn
 have b0:=ZpE g.g n (nt d n)
 have b1:=ZpE g.g n (nt d n+1)
 rw[ZqQ] at b1
 unfold Ze2 Ze4
 rw[ZvJ (by have:=g.fl; omega)]
 simp only[Option.bind_some,show lp (ZcQ d (tch d n)) (0,0,[])=_ from k0,x1,x2,Zf9 (show(Zfc d n (nt d n)).length+1≤1073741824 by rw[ZfW]; omega),cond_true,ZbA (show -9223372036854775808≤Ze6 d.parts (n:Int)-cut d n (nt d n) by omega) (by omega)]
 rw[Zif,ZqQ]
theorem Zmb {d:Zk} (g:Zc1 d) {n:Nat} (hn:n≤d.parts.length):Zb7 d (n:Int)=some (Z4 d n:Int):=by
 have hpl:=g.pl
 have key:∀(k i:Nat),i+k=n→lp (ZcI d (n:Int)) ((Z4 d i:Int),(i:Int))=some (Z4 d n:Int):=by
  intro k
  induction k with
  | zero=>
   intro i hi
   have:i=n:=by omega
   subst this
   rw[ZaK]
   simp only[ZcI,Zc9,cond_false]
  | succ k ih=>
   intro i hi
   have hi':i<n:=by omega
   have hb:=ZdF g (i+1)
   have e:(Z4 d i:Int)+((Ze4 d i).length:Int)=(Z4 d (i+1):Int):=by
    unfold Ze4
    rw[ZfW]
    show _=((Z4 d i+(nt d i+1):Nat):Int)
    omega
   rw[ZaK]
   simp only[ZcI,Zcw hi',cond_true,Zpl g (show i<d.parts.length by omega),Option.bind_some,e,ZbA (show -9223372036854775808≤(Z4 d (i+1):Int) by omega) (by omega),ZH hi' (show n<9223372036854775808 by omega)]
   exact ih (i+1) (by omega)
 unfold Zb7
 have k0:=key n 0 (by omega)
 rw[show lp (ZcI d (n:Int)) (0,0)=_ from k0]
 rfl
def Zfm (d:Zk) (z:Int):Int:=(Z4 d z.toNat:Int)
def Zhv (d:Zk) (z:Int):Int:=(Z4 d (z.toNat+1):Int)-1
theorem Zki {d:Zk} (g:Zc1 d) {z:Int} (h:inR d z):Zb7 d z=some (Zfm d z):=by
 have:=Zmb g (n:=z.toNat) (Nat.le_of_lt h.2)
 rwa [show((z.toNat:Nat):Int)=z from Int.toNat_of_nonneg h.1] at this
theorem Zl9 {d:Zk} (g:Zc1 d) {z:Int} (h:inR d z):Zew d z=some (Zhv d z):=by
 have hpl:=g.pl
 have h2:=h.2
 have h1:=h.1
 have:=Zmb g (n:=z.toNat+1) (by omega)
 have hb:=ZdF g (z.toNat+1)
 unfold Zew Zhv
 rw[ZbA (show -9223372036854775808≤z+1 by omega) (by omega),show z+1=((z.toNat+1:Nat):Int) by omega,this]
 rw[Option.bind_some,ZbA (show -9223372036854775808≤(Z4 d (z.toNat+1):Int)-1 by omega) (by omega)]
def ZqO (d:Zk) (f:Zi):Int:=Zhj (fun _ z=>ZdW d.futures z==f.pos) (fun i _=>Zfm d f.user+(i:Int)+1) (-1) 0 (tch d f.user.toNat)
theorem ZsD {d:Zk} (g:Zc1 d) {f:Zi} (hf:f∈d.futures):ZfP d f=some (ZqO d f):=by
 have hu:=g.user hf
 have hz:((f.user.toNat:Nat):Int)=f.user:=Int.toNat_of_nonneg hu.1
 have hb:=ZdF g f.user.toNat
 have hpl:=g.pl
 have hu2:=hu.2
 have hnt:=ZpU g f.user.toNat
 have key:=ZcU (tch d f.user.toNat) (ZdM d f (tch d f.user.toNat)) (fun _ z=>ZdW d.futures z==f.pos) (fun i _=>.inl (Zfm d f.user+(i:Int)+1)) (.inr ()) (fun i z hi hx=>by
   obtain⟨e,h1,h2,h3,_⟩:=Zgz g.g (show i<nt d f.user.toNat from hi)
   have hz2:(tch d f.user.toNat)[i]=z:=Option.some.inj ((List.getElem?_eq_getElem hi).symm.trans hx)
   rw[hz2] at h1 h2 h3
   have hp:ZdW d.futures z=e.pos:=by unfold ZdW; rw[h3]
   have hi2:i<nt d f.user.toNat:=hi
   have hfz:Zfm d f.user=(Z4 d f.user.toNat:Int):=rfl
   simp only[ZdM,Zcw hi,cond_true,h1,h2,Option.bind_some,hp,Zki g hu,ZH hi (show(tch d f.user.toNat).length<9223372036854775808 by show nt d f.user.toNat<_; omega),ZbA (show -9223372036854775808≤Zfm d f.user+(i:Int) by rw[hfz]; omega) (by rw[hfz]; omega),ZbA (show -9223372036854775808≤Zfm d f.user+(i:Int)+1 by rw[hfz]; omega) (by rw[hfz]; omega)]
   cases e.pos==f.pos<;>rfl) (by simp only[ZdM,Zc9]; rfl)
 have ht:=ZvJ (d:=d) (by have:=g.fl; omega) f.user.toNat
 rw[hz] at ht
 unfold ZfP ZqO
 rw[ht,Option.bind_some,key]
 exact(Zmy (fun _ z=>ZdW d.futures z==f.pos) (fun i _=>(Sum.inl (Zfm d f.user+(i:Int)+1):Int⊕Unit)) (.inr ()) (fun r=>match r with | .inl r=>some r | .inr _=>some (-1:Int)) _ 0).trans (Zmy (fun _ z=>ZdW d.futures z==f.pos) (fun i _=>Zfm d f.user+(i:Int)+1) (-1) some _ 0).symm
end Go.Proofs.YtljgncbdagmeeaaDoor
namespace Go.Proofs.YtljgncbdagmeeaaDoor
open Go Go.Proofs.YtljgncbdagmeeaaDoorE
set_option linter.unusedVariables false
set_option linter.unusedSimpArgs false
def upto {β:Type} (B:Nat→List β) (k:Nat):List β:=(List.range k).flatMap B
theorem Zb0 {β:Type} (B:Nat→List β) (k:Nat):upto B (k+1)=upto B k++B k:=by unfold upto; rw[List.range_succ,List.flatMap_append]; simp
theorem Zkf {γ β:Type} (l:List γ) (hl:l.length≤1000) (step:Int×List β→Option ((Int×List β)⊕List β)) (g:γ→β)
  (h1:∀(i:Nat) x s,i<l.length→l[i]? = some x→Nat.ble (s.length+1) lim=true→step ((i:Int),s)=some (.inl (((i+1:Nat):Int),s++[g x])))
  (h2:∀s,step ((l.length:Int),s)=some (.inr s)) (s:List β) (hs:s.length≤1000000):lp step (0,s)=some (s++l.map g):=by
 have key:=(Zrw l step (fun i s=>((i:Int),s)) (fun _ s x=>s++[g x]) id (fun i s=>s.length≤1000000+i) (fun i x s hi hx hI=>⟨h1 i x s hi hx (Zf9 (by omega)),by rw[List.length_append]; simp only[List.length_cons,List.length_nil]; omega⟩) (fun s _=>h2 s) s (by omega)).1
 have e:∀(l:List γ) (i:Nat) (s:List β),ZgM (fun _ s x=>s++[g x]) i s l=s++l.map g:=by
  intro l
  induction l with
  | nil=>intro i s; simp[ZgM]
  | cons x l ih=>intro i s; show ZgM _ (i+1) (s++[g x]) l=_; rw[ih]; simp
 rw[e] at key
 exact key
def ZeS (d:Zk) (n k:Nat):List Zj:=(List.range k).map fun j=>⟨((Z4 d n+j:Nat):Int),((Z4 d n+j+1:Nat):Int)⟩
theorem Zkt (d:Zk) (n k:Nat):ZeS d n (k+1)=ZeS d n k++[⟨((Z4 d n+k:Nat):Int),((Z4 d n+k+1:Nat):Int)⟩]:=by unfold ZeS; rw[List.range_succ,List.map_append]; rfl
theorem Zl1 (d:Zk) (n k:Nat):(ZeS d n k).length=k:=by unfold ZeS; simp
def ZcV (n k:Nat):List Zh:=(List.range k).map fun j:Nat=>⟨(n:Int),(j:Int)⟩
theorem Zmk (n k:Nat):ZcV n (k+1)=ZcV n k++[⟨(n:Int),(k:Int)⟩]:=by unfold ZcV; rw[List.range_succ,List.map_append]; rfl
theorem Zkj (n k:Nat):(ZcV n k).length=k:=by unfold ZcV; simp
def Zep (d:Zk) (k:Nat):List Int:=upto (Ze4 d) k
def ZdX (d:Zk) (k:Nat):List Zj:=upto (fun n=>ZeS d n (nt d n)) k
def Za9 (d:Zk) (k:Nat):List Zh:=upto (fun n=>ZcV n (nt d n+1)) k
theorem Zho (d:Zk):∀k,(Zep d k).length=Z4 d k
 | 0=>rfl
 | k+1=>by unfold Zep; rw[Zb0,List.length_append]; unfold Ze4; rw[ZfW]; show(Zep d k).length+_=Z4 d k+_; rw[Zho d k]
theorem Zen (d:Zk):∀k,(Za9 d k).length=Z4 d k
 | 0=>rfl
 | k+1=>by unfold Za9; rw[Zb0,List.length_append,Zkj]; show(Za9 d k).length+_=Z4 d k+_; rw[Zen d k]
theorem Zjy (d:Zk):∀k,(ZdX d k).length≤Z4 d k
 | 0=>Nat.le_refl _
 | k+1=>by unfold ZdX; rw[Zb0,List.length_append,Zl1]; have:=Zjy d k; unfold ZdX at this; show _≤Z4 d k+(nt d k+1); omega
def ZkG (d:Zk):List Zj:=d.edges.map fun e=>⟨Zhv d e.src,Zfm d e.dst⟩
def Znd (d:Zk):List Zj:=d.futures.map fun f=>⟨Zhv d f.maker,ZqO d f⟩
def ZsF (d:Zk) (at_:Int) (b:Zr):List Zj:=b.ins.map (fun q=>⟨Zhv d q,at_⟩)++b.outs.map (fun q=>⟨at_,Zfm d q⟩)
def ZjY (d:Zk) (i:Nat):Int:=((Z4 d d.parts.length+i:Nat):Int)
def ZcY (d:Zk) (k:Nat):List Zj:=upto (fun i=>match d.barriers[i]? with | some b=>ZsF d (ZjY d i) b | none=>[]) k
def Zdb (k:Nat):List Zh:=(List.range k).map fun i:Nat=>⟨-1,(i:Int)⟩
theorem Zkb (k:Nat):(Zdb k).length=k:=by unfold Zdb; simp
theorem ZmG (k:Nat):Zdb (k+1)=Zdb k++[⟨-1,(k:Int)⟩]:=by unfold Zdb; rw[List.range_succ,List.map_append]; rfl
def Zkn (d:Zk):List Int:=Zep d d.parts.length++List.replicate d.barriers.length 1
def Zjp (d:Zk):List Zj:=ZdX d d.parts.length++ZkG d++Znd d
def Zsv (d:Zk):List Zj:=Zjp d++ZcY d d.barriers.length
def ZlR (d:Zk):List Zh:=Za9 d d.parts.length++Zdb d.barriers.length
def ZkK (d:Zk):Zg1:=⟨⟨Zkn d,Zsv d⟩,ZlR d⟩
theorem ZlS {d:Zk} (g:Zc1 d):(Zjp d).length≤1000:=by
 unfold Zjp ZkG Znd
 have h1:=Zjy d d.parts.length
 have h2:=ZdF g d.parts.length
 have h3:=g.pl
 have h4:=g.el
 have h5:=g.fl
 simp only[List.length_append,List.length_map]
 omega
theorem Zwe {d:Zk} (hz:ZiM d) {b:Zr} (hb:b∈d.barriers) (z:Int):(ZsF d z b).length≤40:=by
 have:=hz.i b hb
 unfold ZsF
 simp only[List.length_append,List.length_map]
 omega
theorem Zjr {d:Zk} (hz:ZiM d):∀k,(ZcY d k).length≤40*k
 | 0=>Nat.le_refl _
 | k+1=>by
  have ih:=Zjr hz k
  unfold ZcY at ih ⊢
  rw[Zb0,List.length_append]
  split
  ·rename_i b hb
   have:=Zwe hz (List.mem_of_getElem? hb) (ZjY d k)
   omega
  ·simp only[List.length_nil]; omega
theorem ZsZ {d:Zk} (g:Zc1 d) {n:Nat} (hn:n<d.parts.length) (s0:Int×List Zj×List Int×List Zh) (h0:s0.1=(n:Int)) (E:List Zj) (W:List Int) (P:List Zh) (hE:E.length≤1000) (hW:W.length≤1000) (hP:P.length≤1000) :
  lp (ZcJ d s0 (Ze4 d n)) (0,E,W,P)=some (E++ZeS d n (nt d n),W++Ze4 d n,P++ZcV n (nt d n+1)):=by
 have hnt:=ZpU g n
 have hpl:=g.pl
 have hF:=ZdF g n
 have hlen:(Ze4 d n).length=nt d n+1:=ZfW d n _
 have key:∀(k i:Nat),i+k=nt d n+1→lp (ZcJ d s0 (Ze4 d n)) ((i:Int),E++ZeS d n (i-1),W++Zfc d n i,P++ZcV n i)=some (E++ZeS d n (nt d n),W++Ze4 d n,P++ZcV n (nt d n+1)):=by
  intro k
  induction k with
  | zero=>
   intro i hi
   have:i=nt d n+1:=by omega
   subst this
   rw[ZaK]
   simp only[ZcJ,show((nt d n+1:Nat):Int)=((Ze4 d n).length:Int) by rw[hlen],Zc9,cond_false]
   rfl
  | succ k ih=>
   intro i hi
   have hi':i<nt d n+1:=by omega
   have hx:(Ze4 d n)[i]? = some (cut d n (i+1)-cut d n i):=by
    unfold Ze4 Zfc
    rw[List.getElem?_map,List.getElem?_range hi']
    rfl
   have l1:(P++ZcV n i).length+1≤1073741824:=by rw[List.length_append,Zkj]; omega
   have l2:(W++Zfc d n i).length+1≤1073741824:=by rw[List.length_append,ZfW]; omega
   have l3:(E++ZeS d n (i-1)).length+1≤1073741824:=by rw[List.length_append,Zl1]; omega
   have ih':=ih (i+1) (by omega)
   rw[Zif,Zmk,← List.append_assoc,← List.append_assoc] at ih'
   rw[ZaK]
   simp only[ZcJ,hlen,Zcw hi',cond_true,Zf9 l1,Z1 hx,Option.bind_some,Zf9 l2,Zf9 l3,h0,Zmb g (Nat.le_of_lt hn),ZH hi' (show nt d n+1<9223372036854775808 by omega)]
   cases i with
   | zero=>
    simp only[decide_eq_false (show ¬(0:Int)<((0:Nat):Int) by omega),cond_false]
    exact ih'
   | succ j=>
    have e1:(Z4 d n:Int)+((j+1:Nat):Int)=((Z4 d n+j+1:Nat):Int):=by omega
    have e2:((Z4 d n+j+1:Nat):Int)-1=((Z4 d n+j:Nat):Int):=by omega
    simp only[decide_eq_true (show(0:Int)<((j+1:Nat):Int) by omega),cond_true,e1,ZbA (show -9223372036854775808≤((Z4 d n+j+1:Nat):Int) by omega) (by omega),e2,ZbA (show -9223372036854775808≤((Z4 d n+j:Nat):Int) by omega) (by omega),Nat.add_sub_cancel]
    rw[Nat.add_sub_cancel,Zkt,← List.append_assoc] at ih'
    exact ih'
 have:=key (nt d n+1) 0 (by omega)
 simpa [ZeS,Zfc,ZcV] using this
theorem Zs2 {d:Zk} (g:Zc1 d):lp (ZcR d) (0,[],[],[])=some (ZdX d d.parts.length,Zep d d.parts.length,Za9 d d.parts.length):=by
 have hpl:=g.pl
 have key:∀(k i:Nat),i+k=d.parts.length→lp (ZcR d) ((i:Int),ZdX d i,Zep d i,Za9 d i)=some (ZdX d d.parts.length,Zep d d.parts.length,Za9 d d.parts.length):=by
  intro k
  induction k with
  | zero=>
   intro i hi
   have:i=d.parts.length:=by omega
   subst this
   rw[ZaK]
   simp only[ZcR,Zc9,cond_false]
  | succ k ih=>
   intro i hi
   have hi':i<d.parts.length:=by omega
   have hF:=ZdF g i
   have h1:=Zjy d i
   have ih':=ih (i+1) (by omega)
   rw[show ZdX d (i+1)=ZdX d i++ZeS d i (nt d i) from Zb0 _ i,show Zep d (i+1)=Zep d i++Ze4 d i from Zb0 _ i,show Za9 d (i+1)=Za9 d i++ZcV i (nt d i+1) from Zb0 _ i] at ih'
   rw[ZaK]
   simp only[ZcR,Zcw hi',cond_true,Zpl g hi',Option.bind_some,ZsZ g hi' ((i:Int),ZdX d i,Zep d i,Za9 d i) rfl (ZdX d i) (Zep d i) (Za9 d i) (by omega) (by rw[Zho]; omega) (by rw[Zen]; omega),ZH hi' (show d.parts.length<9223372036854775808 by omega)]
   exact ih'
 exact key d.parts.length 0 (by omega)
theorem ZsJ {d:Zk} (g:Zc1 d) (E:List Zj) (hE:E.length≤10000):lp (ZcO d) (0,E)=some (E++ZkG d):=
 have he:=g.el
 Zkf d.edges (by omega) (ZcO d) (fun e=>⟨Zhv d e.src,Zfm d e.dst⟩) (fun i x s hi hx hb=>by
  have hm:=List.mem_of_getElem? hx
  simp only[ZcO,Zcw hi,cond_true,Z1 hx,Option.bind_some,Zl9 g (g.src hm),Zki g (g.dst hm),hb,ZH hi (show d.edges.length<9223372036854775808 by omega)]) (fun s=>by simp only[ZcO,Zc9,cond_false]) E (by omega)
theorem ZqN {d:Zk} (g:Zc1 d) (E:List Zj) (hE:E.length≤10000):lp (ZcG d) (0,E)=some (E++Znd d):=
 have he:=g.fl
 Zkf d.futures (by omega) (ZcG d) (fun f=>⟨Zhv d f.maker,ZqO d f⟩) (fun i x s hi hx hb=>by
  have hm:=List.mem_of_getElem? hx
  simp only[ZcG,Zcw hi,cond_true,Z1 hx,Option.bind_some,Zl9 g (g.maker hm),ZsD g hm,hb,ZH hi (show d.futures.length<9223372036854775808 by omega)]) (fun s=>by simp only[ZcG,Zc9,cond_false]) E (by omega)
theorem Zui {d:Zk} (g:Zc1 d) (hz:ZiM d) (E:List Zj) (hE:E.length≤10000):lp (ZcE d) (0,E,Zep d d.parts.length,Za9 d d.parts.length)=some (E++ZcY d d.barriers.length,Zkn d,ZlR d):=by
 have hbl:=g.bl
 have hF:=ZdF g d.parts.length
 have hpl:=g.pl
 have key:∀(k i:Nat),i+k=d.barriers.length→lp (ZcE d) ((i:Int),E++ZcY d i,Zep d d.parts.length++List.replicate i 1,Za9 d d.parts.length++Zdb i)=some (E++ZcY d d.barriers.length,Zkn d,ZlR d):=by
  intro k
  induction k with
  | zero=>
   intro i hi
   have:i=d.barriers.length:=by omega
   subst this
   rw[ZaK]
   simp only[ZcE,Zc9,cond_false]
   rfl
  | succ k ih=>
   intro i hi
   have hi':i<d.barriers.length:=by omega
   have hx:d.barriers[i]? = some d.barriers[i]:=List.getElem?_eq_getElem hi'
   have hm:=List.mem_of_getElem? hx
   have hsz:=hz.i _ hm
   have hB:=Zjr hz i
   have lp_:(Za9 d d.parts.length++Zdb i).length=Z4 d d.parts.length+i:=by rw[List.length_append,Zen,Zkb]
   have lw_:(Zep d d.parts.length++List.replicate i (1:Int)).length=Z4 d d.parts.length+i:=by rw[List.length_append,Zho,List.length_replicate]
   have hat:((Za9 d d.parts.length++Zdb i).length:Int)=ZjY d i:=by rw[lp_]; rfl
   have k4:=fun s=>Zkf d.barriers[i].ins (by omega) (ZdR d ((i:Int),E++ZcY d i,Zep d d.parts.length++List.replicate i 1,Za9 d d.parts.length++Zdb i) d.barriers[i]) (fun q=>⟨Zhv d q,ZjY d i⟩) (fun j x s hj hx hb=>by
    simp only[ZdR,Zcw hj,cond_true,Z1 hx,Option.bind_some,Zl9 g (g.ins _ hm x (List.mem_of_getElem? hx)),hb,hat,ZH hj (show d.barriers[i].ins.length<9223372036854775808 by omega)]) (fun s=>by simp only[ZdR,Zc9,cond_false]) s
   have k5:=fun s=>Zkf d.barriers[i].outs (by omega) (Zdy d ((i:Int),E++ZcY d i,Zep d d.parts.length++List.replicate i 1,Za9 d d.parts.length++Zdb i) d.barriers[i]) (fun q=>⟨ZjY d i,Zfm d q⟩) (fun j x s hj hx hb=>by
    simp only[Zdy,Zcw hj,cond_true,Z1 hx,Option.bind_some,Zki g (g.outs _ hm x (List.mem_of_getElem? hx)),hb,hat,ZH hj (show d.barriers[i].outs.length<9223372036854775808 by omega)]) (fun s=>by simp only[Zdy,Zc9,cond_false]) s
   have ih':=ih (i+1) (by omega)
   have eB:ZcY d (i+1)=ZcY d i++ZsF d (ZjY d i) d.barriers[i]:=by
    unfold ZcY
    rw[Zb0,hx]
   rw[eB,ZmG,List.replicate_succ',ZsF,← List.append_assoc,← List.append_assoc,← List.append_assoc,← List.append_assoc] at ih'
   rw[ZaK]
   simp only[ZcE,Zcw hi',cond_true,Zf9 (show(Za9 d d.parts.length++Zdb i).length+1≤1073741824 by rw[lp_]; omega),Zf9 (show(Zep d d.parts.length++List.replicate i (1:Int)).length+1≤1073741824 by rw[lw_]; omega),Z1 hx,Option.bind_some,k4 (E++ZcY d i) (by rw[List.length_append]; omega),
    k5 (E++ZcY d i++List.map (fun q=>⟨Zhv d q,ZjY d i⟩) d.barriers[i].ins) (by simp only[List.length_append,List.length_map]; omega),ZH hi' (show d.barriers.length<9223372036854775808 by omega)]
   exact ih'
 have:=key d.barriers.length 0 (by omega)
 simpa [ZcY,upto,Zdb] using this
theorem Zs9 {d:Zk} (g:Zc1 d) (hz:ZiM d):ZfE d=some (ZkK d):=by
 have hE:=ZlS g
 have h3:(ZdX d d.parts.length++ZkG d).length≤10000:=by unfold Zjp at hE; rw[List.length_append] at hE; omega
 have h4:(ZdX d d.parts.length).length≤10000:=by rw[List.length_append] at h3; omega
 unfold ZfE
 rw[Zs2 g]
 simp only[Option.bind_some,ZsJ g _ h4,ZqN g _ h3]
 rw[show ZdX d d.parts.length++ZkG d++Znd d=Zjp d from rfl,Zui g hz (Zjp d) (by omega)]
 rfl
end Go.Proofs.YtljgncbdagmeeaaDoor
namespace Go.Proofs.YtljgncbdagmeeaaDoor
open Go Go.Proofs.YtljgncbdagmeeaaDoorE
set_option linter.unusedVariables false
set_option linter.unusedSimpArgs false
theorem Zgr (b:Zh) (c:Int) {W:List Int} {P:List Zh} (h1:W.length≤10000) (h2:P.length≤10000):Zak b c W P=some ():=by
 unfold Zak
 rw[Zf9 (by omega),Zf9 (by omega)]; rfl
theorem Zjd (b c:Int) {E:List Zj} (h1:E.length≤10000):ZI b c E=some ():=by
 unfold ZI
 rw[Zf9 (by omega)]; rfl
theorem Zq2 {β:Type} (P:List β) (x:β) (hP:P.length≤10000):w64 ((List.length (P++[x]):Int)-1)=(P.length:Int):=by
 rw[List.length_append]
 simp only[List.length_cons,List.length_nil]
 rw[ZbA (by omega) (by omega)]
 omega
theorem ZuU {d:Zk} (g:Zc1 d) {n:Nat} (hn:n<d.parts.length) (hc:Zc2 d (n:Int)=some (tch d n)) {W:List Int} {E:List Zj} {P:List Zh} (M5:List (Int×Int)) (M6:List (Zi×Int)) (hW:W.length≤1000) (hE:E.length≤1000) (hP:P.length≤1000) :
  Zdo d (n:Int) W E P M5 M6=(lp (ZB d (n:Int) (tch d n)) (0,0,M5,M6,W,E,P)).bind fun r=>some (bif decide (0<nt d n) then .inl r else .inr (.inl r.2.2.1)):=by
 obtain⟨x,x1,x2⟩:=ZqT hn
 have hnt:=ZpU g n
 have hnl:(tch d n).length=nt d n:=rfl
 have e1:w64 (((tch d n).length:Int)+1)=(((tch d n).length+1:Nat):Int):=by rw[ZbA (by omega) (by omega)]; omega
 have w1:w64 ((0:Int)+1)=1:=ZbA (by omega) (by omega)
 have w2:w64 ((1:Int)+1)=2:=ZbA (by omega) (by omega)
 have w0:w64 ((1:Int)-1)=0:=ZbA (by omega) (by omega)
 have lW:∀a:Int,(W++[a]).length≤10000:=fun a=>by rw[List.length_append]; simp only[List.length_cons,List.length_nil]; omega
 have lP:∀a:Zh,(P++[a]).length≤10000:=fun a=>by rw[List.length_append]; simp only[List.length_cons,List.length_nil]; omega
 unfold Zdo
 rw[hc,Option.bind_some,ZaK (Zbp d (n:Int) W E P M5 M6 (tch d n)),ZaK (ZB d (n:Int) (tch d n))]
 by_cases h0:0<nt d n
 ·obtain⟨f,f1,f2,_⟩:=Zgz g.g h0
  have c0:decide ((0:Int)<(((tch d n).length+1:Nat):Int))=true:=decide_eq_true (by omega)
  have c1:decide ((0:Int)<((tch d n).length:Int))=true:=decide_eq_true (by omega)
  have c2:decide ((1:Int)<(((tch d n).length+1:Nat):Int))=true:=decide_eq_true (by omega)
  have f1':ZE (tch d n) 0=some (tch d n)[0]:=f1
  simp only[Zbp,ZB,e1,c0,c1,cond_true,x1,Option.bind_some,f1',f2,Zgr _ _ (show W.length≤10000 by omega) (show P.length≤10000 by omega),w1,decide_eq_false (show ¬(0:Int)<0 by omega),cond_false,decide_eq_true h0]
  rw[ZaK (Zbo d (n:Int) W E P M5 M6 (tch d n) f),ZaK (ZB d (n:Int) (tch d n))]
  by_cases h1:1<nt d n
  ·obtain⟨f',f1b,f2b,_⟩:=Zgz g.g h1
   have f1b':ZE (tch d n) 1=some (tch d n)[1]:=f1b
   have c3:decide ((1:Int)<((tch d n).length:Int))=true:=decide_eq_true (by omega)
   simp only[Zbo,ZB,e1,c2,c3,cond_true,x1,Option.bind_some,f1',f2,f1b',f2b,Zgr _ _ (lW _) (lP _),Zjd _ _ (show E.length≤10000 by omega),w2,w0,decide_eq_true (show(0:Int)<1 by omega)]
   generalize lp (ZB d (n:Int) (tch d n)) _=r
   cases r<;>rfl
  ·have c3:decide ((1:Int)<((tch d n).length:Int))=false:=decide_eq_false (by omega)
   simp only[Zbo,ZB,e1,c2,c3,cond_true,cond_false,x1,Option.bind_some,f1',f2,Zgr _ _ (lW _) (lP _),Zjd _ _ (show E.length≤10000 by omega),w2,w0,decide_eq_true (show(0:Int)<1 by omega)]
   generalize lp (ZB d (n:Int) (tch d n)) _=r
   cases r<;>rfl
 ·have c0:decide ((0:Int)<(((tch d n).length+1:Nat):Int))=true:=decide_eq_true (by omega)
  have c1:decide ((0:Int)<((tch d n).length:Int))=false:=decide_eq_false (by omega)
  have c2:decide ((1:Int)<(((tch d n).length+1:Nat):Int))=false:=decide_eq_false (by omega)
  simp only[Zbp,ZB,e1,c0,c1,cond_true,x1,Option.bind_some,Zgr _ _ (show W.length≤10000 by omega) (show P.length≤10000 by omega),w1,decide_eq_false (show ¬(0:Int)<0 by omega),cond_false,decide_eq_false h0]
  rw[ZaK (Zb5 d (n:Int) W E P M5 M6 (tch d n) x),ZaK (ZB d (n:Int) (tch d n))]
  simp only[Zb5,ZB,e1,c2,cond_false,Option.bind_some]
abbrev eqF:Zi→Zi→Bool:=fun ka kb:Zi=>((ka.maker==kb.maker)&&((ka.user==kb.user)&&((ka.pos==kb.pos)&&true)))
def Zit (M:List (Int×Int)) (n F i:Nat):List (Int×Int):=if i=0 then M else M++[((n:Int),((F+i-1:Nat):Int))]
theorem Zsa {M:List (Int×Int)} {n F:Nat} (h:∀q∈M,q.1≠(n:Int)) (i:Nat):Zv (fun ka kb:Int=>(ka==kb)) (Zit M n F i) (n:Int) ((F+i:Nat):Int)=Zit M n F (i+1):=by
 have hq:∀q∈M,eqI (n:Int) q.1=false:=fun q hq=>by
  show((n:Int)==q.1)=false
  exact beq_false_of_ne (Ne.symm (h q hq))
 unfold Zit
 rw[if_neg (show i+1≠0 by omega)]
 by_cases h0:i=0
 ·subst h0
  rw[if_pos rfl]
  exact ZhX eqI (n:Int) _ M hq
 ·rw[if_neg h0]
  exact ZnK eqI (n:Int) _ _ (by simp) M hq
theorem Zrm {M:List (Int×Int)} {n F:Nat} (h:∀q∈M,q.1≠(n:Int)) (i:Nat):Z5 (fun ka kb:Int=>(ka==kb)) (Zit M n F (i+1)) (n:Int) 0=((F+i:Nat):Int):=by
 unfold Zit
 rw[if_neg (show i+1≠0 by omega)]
 exact ZpZ eqI (n:Int) 0 _ (by simp) M [] (fun q hq=>by
  show((n:Int)==q.1)=false
  exact beq_false_of_ne (Ne.symm (h q hq)))
def ZfM (d:Zk) (n j:Nat):Zi:=match (tch d n)[j]? with | some z=>(match d.futures[z.toNat]? with | some f=>f | none=>⟨0,0,0⟩) | none=>⟨0,0,0⟩
theorem Zfo {d:Zk} {n i:Nat} (g:ZmS d) (hi:i<nt d n):ZE (tch d n) (i:Int)=some (tch d n)[i]∧ZE d.futures (tch d n)[i]=some (ZfM d n i)∧(ZfM d n i).user=(n:Int)∧(ZfM d n i).pos=cut d n (i+1)∧ZfM d n i∈d.futures:=by
 obtain⟨f,h1,h2,h3,h4,h5,h6⟩:=Zgz g hi
 have e:ZfM d n i=f:=by
  unfold ZfM
  rw[List.getElem?_eq_getElem hi]
  show(match d.futures[((tch d n)[i]).toNat]? with | some f=>f | none=>⟨0,0,0⟩)=f
  rw[h3]
 rw[e]
 exact⟨h1,h2,h4,h5,h6⟩
theorem ZoH {d:Zk} (g:ZmS d) {n i j:Nat} (hij:i<j) (hj:j<nt d n):(ZfM d n i).pos<(ZfM d n j).pos:=by
 obtain⟨_,_,h3,_,_,h5,_⟩:=Zgz g (show i<nt d n by omega)
 obtain⟨_,_,k3,_,_,k5,_⟩:=Zgz g hj
 rw[(Zfo g (show i<nt d n by omega)).2.2.2.1,(Zfo g hj).2.2.2.1]
 have:=List.pairwise_iff_getElem.1 (Znq g n).rise i j (show i<nt d n by omega) hj hij
 have e:∀k (hk:k<nt d n),cut d n (k+1)=ZdW d.futures (tch d n)[k]:=fun k hk=>by
  unfold cut
  rw[if_neg (by omega),Nat.add_sub_cancel,List.getElem?_eq_getElem hk]
 rw[e i (by omega),e j hj]
 exact this
def Zfy (d:Zk) (n k:Nat):List (Zi×Int):=(List.range k).map fun j:Nat=>(ZfM d n j,((Z4 d n+j+1:Nat):Int))
theorem Zre (d:Zk) (n k:Nat):Zfy d n (k+1)=Zfy d n k++[(ZfM d n k,((Z4 d n+k+1:Nat):Int))]:=by unfold Zfy; rw[List.range_succ,List.map_append]; rfl
theorem ZqP {a b:Zi} (h:a.user≠b.user∨a.pos≠b.pos):eqF a b=false:=by
 show((a.maker==b.maker)&&((a.user==b.user)&&((a.pos==b.pos)&&true)))=false
 rcases h with h | h
 ·rw[beq_false_of_ne h]; simp
 ·rw[beq_false_of_ne h]; simp
theorem ZoG {d:Zk} (g:ZmS d) {n k:Nat} (hk:k<nt d n) {M:List (Zi×Int)} (h:∀q∈M,q.1.user≠(n:Int)) :
  Zv (fun ka kb:Zi=>((ka.maker==kb.maker)&&((ka.user==kb.user)&&((ka.pos==kb.pos)&&true)))) (M++Zfy d n k) (ZfM d n k) ((Z4 d n+(k+1):Nat):Int)=M++Zfy d n (k+1):=by
 rw[Zre,← List.append_assoc]
 refine ZhX eqF _ _ _ fun q hq=>?_
 have hu:=(Zfo g hk).2.2.1
 rcases List.mem_append.1 hq with hq | hq
 ·exact ZqP (.inl (by rw[hu]; exact Ne.symm (h q hq)))
 ·unfold Zfy at hq
  obtain⟨j,hj,rfl⟩:=List.mem_map.1 hq
  rw[List.mem_range] at hj
  have:=ZoH g hj hk
  exact ZqP (.inr (by show(ZfM d n k).pos≠(ZfM d n j).pos; omega))
theorem Zta {d:Zk} (g:Zc1 d) {n:Nat} (hn:n<d.parts.length) {W:List Int} {E:List Zj} {P:List Zh} {M5:List (Int×Int)} {M6:List (Zi×Int)} (hW:W.length≤1000) (hE:E.length≤1000) (hP:P.length=Z4 d n)
  (h5:∀q∈M5,q.1≠(n:Int)) (h6:∀q∈M6,q.1.user≠(n:Int)) :
  lp (ZB d (n:Int) (tch d n)) (0,0,M5,M6,W,E,P)=some (M5++[((n:Int),((Z4 d n+nt d n:Nat):Int))],M6++Zfy d n (nt d n),W++Ze4 d n,E++ZeS d n (nt d n),P++ZcV n (nt d n+1)):=by
 obtain⟨x,x1,x2⟩:=ZqT hn
 have hnt:=ZpU g n
 have hnl:(tch d n).length=nt d n:=rfl
 have hF:=ZdF g n
 have hpl:=g.pl
 have e1:w64 (((tch d n).length:Int)+1)=((nt d n+1:Nat):Int):=by show w64 ((nt d n:Int)+1)=_; rw[ZbA (by omega) (by omega)]; omega
 have key:∀(k i:Nat),i+k=nt d n+1→lp (ZB d (n:Int) (tch d n)) (cut d n i,(i:Int),Zit M5 n (Z4 d n) i,M6++Zfy d n (i-1),W++Zfc d n i,E++ZeS d n (i-1),P++ZcV n i) =
   some (Zit M5 n (Z4 d n) (nt d n+1),M6++Zfy d n (nt d n),W++Ze4 d n,E++ZeS d n (nt d n),P++ZcV n (nt d n+1)):=by
  intro k
  induction k with
  | zero=>
   intro i hi
   have:i=nt d n+1:=by omega
   subst this
   rw[ZaK]
   simp only[ZB,e1,Zc9,cond_false]
   rfl
  | succ k ih=>
   intro i hi
   have hi':i<nt d n+1:=by omega
   have b0:=ZpE g.g n i
   have b1:=ZpE g.g n (i+1)
   have lP:(P++ZcV n i).length=Z4 d n+i:=by rw[List.length_append,Zkj,hP]
   have l2:(W++Zfc d n i).length≤10000:=by rw[List.length_append,ZfW]; omega
   have l3:(E++ZeS d n (i-1)).length≤10000:=by rw[List.length_append,Zl1]; omega
   have lput:=Zq2 (P++ZcV n i) (Zh.mk (n:Int) (i:Int)) (by rw[lP]; omega)
   rw[lP] at lput
   have p5:=Zsa (F:=Z4 d n) h5 i
   have g5:=Zrm (F:=Z4 d n) h5 i
   have w5:w64 (cut d n (i+1)-cut d n i)=cut d n (i+1)-cut d n i:=ZbA (by omega) (by omega)
   have ih':=ih (i+1) (by omega)
   rw[Zif,Zmk,← List.append_assoc,← List.append_assoc] at ih'
   rw[ZaK]
   have fin:i=nt d n→cut d n (i+1)=x.work:=fun h=>by rw[h,ZqQ,x2]
   have node:=fun c=>Zgr (Zh.mk (n:Int) (i:Int)) c l2 (show(P++ZcV n i).length≤10000 by rw[lP]; omega)
   by_cases hlast:i<nt d n
   ·obtain⟨q1,q2,q3,q4,_⟩:=Zfo g.g hlast
    cases i with
    | zero=>
     simp only[ZB,e1,Zcw hi',cond_true,x1,Option.bind_some,Zcw (show 0<(tch d n).length from hlast),q1,q2,q4,node,decide_eq_false (show ¬(0:Int)<((0:Nat):Int) by omega),cond_false,lput,p5,w5,ZH hi' (show nt d n+1<9223372036854775808 by omega)]
     exact ih'
    | succ j=>
     obtain⟨r1,r2,r3,r4,_⟩:=Zfo g.g (show j<nt d n by omega)
     have e2:w64 (((j+1:Nat):Int)-1)=(j:Int):=by rw[ZbA (by omega) (by omega)]; omega
     have e3:w64 (((Z4 d n+(j+1):Nat):Int)-1)=((Z4 d n+j:Nat):Int):=by rw[ZbA (by omega) (by omega)]; omega
     have p6:=ZoG g.g (show j<nt d n by omega) h6
     rw[Nat.add_sub_cancel] at l3 ih' ⊢
     rw[Zkt,← List.append_assoc] at ih'
     simp only[ZB,e1,Zcw hi',cond_true,x1,Option.bind_some,Zcw (show j+1<(tch d n).length from hlast),q1,q2,q4,node,decide_eq_true (show(0:Int)<((j+1:Nat):Int) by omega),lput,p5,g5,w5,e2,e3,r1,r2,Zjd _ _ l3,p6,ZH hi' (show nt d n+1<9223372036854775808 by omega)]
     exact ih'
   ·have hin:i=nt d n:=by omega
    have hfin:=fin hin
    rw[hfin] at w5 ih'
    have c3:decide ((i:Int)<((tch d n).length:Int))=false:=decide_eq_false (by have:((tch d n).length:Int)=(nt d n:Int):=rfl; omega)
    cases i with
    | zero=>
     simp only[ZB,e1,Zcw hi',cond_true,x1,Option.bind_some,c3,node,decide_eq_false (show ¬(0:Int)<((0:Nat):Int) by omega),cond_false,lput,p5,w5,ZH hi' (show nt d n+1<9223372036854775808 by omega)]
     exact ih'
    | succ j=>
     obtain⟨r1,r2,r3,r4,_⟩:=Zfo g.g (show j<nt d n by omega)
     have e2:w64 (((j+1:Nat):Int)-1)=(j:Int):=by rw[ZbA (by omega) (by omega)]; omega
     have e3:w64 (((Z4 d n+(j+1):Nat):Int)-1)=((Z4 d n+j:Nat):Int):=by rw[ZbA (by omega) (by omega)]; omega
     have p6:=ZoG g.g (show j<nt d n by omega) h6
     rw[Nat.add_sub_cancel] at l3 ih' ⊢
     rw[Zkt,← List.append_assoc] at ih'
     simp only[ZB,e1,Zcw hi',cond_true,cond_false,x1,Option.bind_some,c3,node,decide_eq_true (show(0:Int)<((j+1:Nat):Int) by omega),lput,p5,g5,w5,e2,e3,r1,r2,Zjd _ _ l3,p6,ZH hi' (show nt d n+1<9223372036854775808 by omega)]
     exact ih'
 have:=key (nt d n+1) 0 (by omega)
 simpa [Zit,Zfy,Zfc,ZeS,ZcV,cut] using this
end Go.Proofs.YtljgncbdagmeeaaDoor
namespace Go.Proofs.YtljgncbdagmeeaaDoor
open Go Go.Proofs.YtljgncbdagmeeaaDoorE
set_option linter.unusedVariables false
set_option linter.unusedSimpArgs false
def ZeD (a:Int) (T:List Bool) (e:Zj):List Bool:=bif (e.src==a) || bAt T e.src then T.set e.dst.toNat true else T
def Zqv (g:Zae) (a:Int) (T:List Bool):List Bool:=ZgM (fun _ T e=>ZeD a T e) 0 T g.edges
def Zkz (g:Zae) (a:Int):Nat→List Bool→List Bool
 | 0,T=>T
 | k+1,T=>Zkz g a k (Zqv g a T)
theorem Zjn (a:Int) (T:List Bool) (e:Zj):(ZeD a T e).length=T.length:=by
 unfold ZeD
 cases (e.src==a) || bAt T e.src<;>simp
theorem ZzU {g:Zae} (h:ZfF g) (a:Int) (j:Int) (T:List Bool) (hT:T.length=g.work.length):lp (ZcT g a) (0,T)=some (Zqv g a T)∧(Zqv g a T).length=g.work.length:=by
 have:=Zrw g.edges (ZcT g a) (fun i T=>((i:Int),T)) (fun _ T e=>ZeD a T e) id (fun _ T=>T.length=g.work.length) (fun i e T hi he hT=>by
   have hm:=List.mem_of_getElem? he
   refine⟨?_,by rw[Zjn]; exact hT⟩
   have e1:=ZmH (g:=g) hT (h.src e hm)
   have e2:=ZmH (g:=g) hT (h.dst e hm)
   simp only[ZcT,Zcw hi,Z1 he,Option.bind_some,ZH hi h.short.e,cond_true,e1,e2,ZeD]
   cases (e.src==a)<;>cases bAt T e.src<;>rfl) (fun T hT=>by simp only[ZcT,Zc9]; rfl) T hT
 exact this
theorem Zq8 {g:Zae} (h:ZfF g) (a:Int):∀(k i:Nat) (T:List Bool),i+k=g.work.length→T.length=g.work.length→lp (ZcH g a) ((i:Int),T)=some (Zkz g a k T)
 | 0,i,T,hi,hT=>by
  have:i=g.work.length:=by omega
  subst this
  rw[ZaK]
  simp only[ZcH,Zc9,cond_false]
  rfl
 | k+1,i,T,hi,hT=>by
  obtain⟨e,hl⟩:=ZzU h a 0 T hT
  rw[ZaK]
  simp only[ZcH,Zcw (show i<g.work.length by omega),cond_true,e,Option.bind_some,ZH (show i<g.work.length by omega) h.short.w]
  exact Zq8 h a k (i+1) _ (by omega) hl
def Zjs (g:Zae) (a:Int):List Bool:=Zkz g a g.work.length (List.replicate g.work.length false)
theorem Zyi {g:Zae} (h:ZfF g) (a:Int):ZfO g a=some (Zjs g a):=by
 have hl:=h.wl
 have:=Zq8 h a g.work.length 0 (List.replicate g.work.length false) (by simp) (by simp)
 have e0:lp (ZcH g a) (0,List.replicate g.work.length false)=some (Zjs g a):=this
 unfold ZfO
 rw[decide_eq_true (show(0:Int)≤(g.work.length:Int) by omega),decide_eq_true (show(g.work.length:Int)≤lim by show(g.work.length:Int)≤1073741824; omega),beq_self_eq_true]
 simp only[decide_true,Bool.and_true,cond_true,Int.toNat_natCast,e0,Option.bind_some]
theorem Zrr {g:Zae} (h:ZfF g) (a:Int):∀(l:List Zj) (i:Nat) (T:List Bool),(∀e∈l,e∈g.edges)→T.length=g.work.length→(∀z,0≤z→bAt T z=true→Way g a z)→(∀z,0≤z→bAt (ZgM (fun _ T e=>ZeD a T e) i T l) z=true→Way g a z)
 | [],_,_,_,_,hT=>hT
 | e :: l,i,T,hl,hn,hT=>by
  refine Zrr h a l (i+1) _ (fun x hx=>hl x (by simp[hx])) (by rw[Zjn]; exact hn) fun z hz hb=>?_
  have he:=hl e (by simp)
  have hd:=h.dst e he
  have hb:bAt (ZeD a T e) z=true:=hb
  unfold ZeD at hb
  cases hc:(e.src==a) || bAt T e.src with
  | false=>rw[hc] at hb; exact hT z hz hb
  | true=>
   rw[hc] at hb
   simp only[cond_true] at hb
   rw[Zt6 (by rw[hn]; exact hd.2) z hz,Bool.or_eq_true,decide_eq_true_eq] at hb
   rcases hb with hb | hb
   ·have:z=e.dst:=by omega
    subst this
    rw[Bool.or_eq_true,beq_iff_eq] at hc
    rcases hc with hc | hc
    ·exact hc ▸ Way.one he
    ·exact Way.more (hT _ (h.src e he).1 hc) he
   ·exact hT z hz hb
theorem ZoK (g:Zae) (a:Int) (T:List Bool):(Zqv g a T).length=T.length:=by
 have:∀(l:List Zj) (i:Nat) (T:List Bool),(ZgM (fun _ T e=>ZeD a T e) i T l).length=T.length:=by
  intro l
  induction l with
  | nil=>intro i T; rfl
  | cons e l ih=>intro i T; exact(ih (i+1) _).trans (Zjn a T e)
 exact this g.edges 0 T
theorem ZoY {g:Zae} (h:ZfF g) (a:Int):∀(k:Nat) (T:List Bool),T.length=g.work.length→(∀z,0≤z→bAt T z=true→Way g a z)→(∀z,0≤z→bAt (Zkz g a k T) z=true→Way g a z)
 | 0,_,_,hT=>hT
 | k+1,T,hn,hT=>ZoY h a k _ (by rw[ZoK]; exact hn) (Zrr h a g.edges 0 T (fun _ hx=>hx) hn hT)
def ZjG (g:Zae) (a:Int) (T:List Bool):Prop:=∀e∈g.edges,(e.src=a∨bAt T e.src=true)→bAt T e.dst=true
theorem Zte {g:Zae} {a:Int} {T:List Bool} (hc:ZjG g a T) {b:Int} (w:Way g a b):bAt T b=true:=by
 generalize ha:a=a' at w
 induction w with
 | one he=>exact hc _ he (.inl ha.symm)
 | more w he ih=>exact hc _ he (.inr (ih ha))
def cnt (T:List Bool):Nat:=T.countP id
theorem Zyj {T:List Bool} {i:Nat} (hi:i<T.length):cnt T≤cnt (T.set i true)∧(bAt T (i:Int)=false→cnt (T.set i true)=cnt T+1):=by
 have e:=List.countP_set (p:=id) (a:=true) hi
 have hb:bAt T (i:Int)=T[i]:=by unfold bAt; rw[Int.toNat_natCast,List.getElem?_eq_getElem hi]
 unfold cnt
 rw[e,hb]
 have pos:T[i]=true→0<T.countP id:=fun ht=>List.countP_pos_iff.2 ⟨T[i],List.getElem_mem hi,ht⟩
 cases ht:T[i] with
 | true=>have:=pos ht; simp; omega
 | false=>simp
theorem Zra {g:Zae} (h:ZfF g) (a:Int):∀(l:List Zj) (i:Nat) (T:List Bool),(∀e∈l,e∈g.edges)→T.length=g.work.length →
  cnt T≤cnt (ZgM (fun _ T e=>ZeD a T e) i T l)∧(cnt (ZgM (fun _ T e=>ZeD a T e) i T l)=cnt T→ZgM (fun _ T e=>ZeD a T e) i T l=T∧∀e∈l,(e.src=a∨bAt T e.src=true)→bAt T e.dst=true)
 | [],_,T,_,_=>⟨Nat.le_refl _,fun _=>⟨rfl,fun e he=>by cases he⟩⟩
 | e :: l,i,T,hl,hn=>by
  have he:=hl e (by simp)
  have hd:=h.dst e he
  have hi:e.dst.toNat<T.length:=by rw[hn]; exact hd.2
  have hd2:((e.dst.toNat:Nat):Int)=e.dst:=by omega
  obtain⟨k1,k2⟩:=Zra h a l (i+1) (ZeD a T e) (fun x hx=>hl x (by simp[hx])) (by rw[Zjn]; exact hn)
  show cnt T≤cnt (ZgM _ (i+1) (ZeD a T e) l)∧(cnt (ZgM _ (i+1) (ZeD a T e) l)=cnt T→ZgM _ (i+1) (ZeD a T e) l=T∧_)
  obtain⟨c1,c2⟩:=Zyj hi
  have hstep:cnt T≤cnt (ZeD a T e)∧(cnt (ZeD a T e)=cnt T→ZeD a T e=T∧((e.src=a∨bAt T e.src=true)→bAt T e.dst=true)):=by
   unfold ZeD
   cases hc:(e.src==a) || bAt T e.src with
   | false=>
    simp only[cond_false]
    refine⟨Nat.le_refl _,fun _=>⟨trivial,fun hx=>?_⟩⟩
    exfalso
    rw[Bool.or_eq_false_iff,beq_eq_false_iff_ne] at hc
    rcases hx with hx | hx
    ·exact hc.1 hx
    ·rw[hc.2] at hx; cases hx
   | true=>
    simp only[cond_true]
    refine⟨c1,fun hx=>?_⟩
    cases hb:bAt T e.dst with
    | false=>
     rw[hd2] at c2
     have:=c2 hb
     omega
    | true=>
     refine⟨?_,fun _=>rfl⟩
     have hg:T[e.dst.toNat]=true:=by
      unfold bAt at hb
      rw[List.getElem?_eq_getElem hi] at hb
      exact hb
     rw[← hg,List.set_getElem_self]
  refine⟨by omega,fun hx=>?_⟩
  obtain⟨s1,s2⟩:=hstep.2 (by omega)
  obtain⟨t1,t2⟩:=k2 (by omega)
  rw[s1] at t1 t2 ⊢
  refine⟨t1,fun x hx=>?_⟩
  rcases List.mem_cons.1 hx with rfl | hx
  ·exact s2
  ·exact t2 x hx
theorem ZlN {g:Zae} (h:ZfF g) (a:Int):∀(k:Nat) (T:List Bool),T.length=g.work.length→g.work.length≤cnt T+k→ZjG g a (Zkz g a k T)
 | 0,T,hn,hk=>by
  have hall:cnt T=T.length:=Nat.le_antisymm (List.countP_le_length) (by omega)
  have:=List.countP_eq_length.1 hall
  intro e he _
  have hd:=h.dst e he
  show bAt T e.dst=true
  unfold bAt
  rw[List.getElem?_eq_getElem (show e.dst.toNat<T.length by rw[hn]; exact hd.2)]
  exact this _ (List.getElem_mem _)
 | k+1,T,hn,hk=>by
  obtain⟨c1,c2⟩:=Zra h a g.edges 0 T (fun _ hx=>hx) hn
  by_cases hc:cnt (Zqv g a T)=cnt T
  ·obtain⟨t1,t2⟩:=c2 hc
   have t1':Zqv g a T=T:=t1
   have stay:∀k,Zkz g a k T=T:=by
    intro k
    induction k with
    | zero=>rfl
    | succ k ih=>show Zkz g a k (Zqv g a T)=T; rw[t1']; exact ih
   rw[stay]
   exact t2
  ·have c1':cnt T≤cnt (Zqv g a T):=c1
   exact ZlN h a k (Zqv g a T) (by rw[ZoK]; exact hn) (by omega)
theorem ZpG {g:Zae} (h:ZfF g) {a b:Int} (hb:0≤b):bAt (Zjs g a) b=true↔Way g a b:=by
 constructor
 ·exact ZoY h a _ _ (by simp) (fun z hz hx=>by
   exfalso
   unfold bAt at hx
   rw[List.getElem?_replicate] at hx
   split at hx
   ·rename_i heq
    split at heq
    ·cases heq; cases hx
    ·cases heq
   ·cases hx) b hb
 ·exact Zte (ZlN h a g.work.length (List.replicate g.work.length false) (by simp) (by omega))
theorem Zs5 (g:Zae) (a:Int):(Zjs g a).length=g.work.length:=by
 have:∀(k:Nat) (T:List Bool),(Zkz g a k T).length=T.length:=by
  intro k
  induction k with
  | zero=>intro T; rfl
  | succ k ih=>intro T; exact(ih _).trans (ZoK g a T)
 exact(this _ _).trans (by simp)
theorem Zsu (g:Zae) (h:Zns g):ZfD g=some (Zjq g):=by
 unfold ZfD
 rw[Ztb g h,Option.bind_some]
 by_cases h0:Zh2 g=0
 ·have hG:=Zrs h0
  have key:=ZcU g.work (ZdI g) (fun i _=>bAt (Zjs g (i:Int)) (i:Int)) (fun _ _=>.inl ()) (.inr ()) (fun i x hi hx=>by
    simp only[ZdI,Zcw hi,Zyi hG,Option.bind_some,ZH hi h.w,cond_true,ZmH (Zs5 g (i:Int)) (z:=(i:Int)) ⟨by omega,by simpa using hi⟩]
    cases bAt (Zjs g (i:Int)) (i:Int)<;>rfl) (by simp only[ZdI,Zc9]; rfl)
  rw[key,Zbe,h0]
  unfold Zjq
  rw[h0]
  by_cases hg:Zof g
  ·rw[ZtS hg]
   cases hb:Zfa (fun i _=>bAt (Zjs g (i:Int)) (i:Int)) 0 g.work with
   | false=>rfl
   | true=>
    obtain⟨j,x,_,h2⟩:=(ZhL _ _ 0).1 hb
    exact absurd ((ZpG hG (by omega)).1 h2) (hg _)
  ·rw[Ztx hg]
   cases hb:Zfa (fun i _=>bAt (Zjs g (i:Int)) (i:Int)) 0 g.work with
   | true=>rfl
   | false=>
    exfalso
    refine hg fun a w=>?_
    have ha:=w.src_in hG
    have es:((a.toNat:Nat):Int)=a:=by omega
    have:=(ZhL (fun i (_:Int)=>bAt (Zjs g (i:Int)) (i:Int)) g.work 0).2 ⟨a.toNat,_,List.getElem?_eq_getElem ha.2,by rw[Nat.zero_add,es]; exact(ZpG hG ha.1).2 w⟩
    rw[hb] at this
    cases this
 ·unfold Zjq
  have hne:(Zh2 g != 0)=true:=by rw[bne,beq_false_of_ne h0]; rfl
  rw[beq_false_of_ne h0,hne]
  rfl
end Go.Proofs.YtljgncbdagmeeaaDoor
namespace Go.Proofs.YtljgncbdagmeeaaDoor
open Go Go.Proofs.YtljgncbdagmeeaaDoorE
set_option linter.unusedVariables false
set_option linter.unusedSimpArgs false
def Zfp (d:Zk) (k:Nat):List (Int×Int):=(List.range k).map fun n:Nat=>((n:Int),(Z4 d n:Int))
def ZfS (d:Zk) (k:Nat):List (Int×Int):=(List.range k).map fun n:Nat=>((n:Int),((Z4 d n+nt d n:Nat):Int))
def ZdV (d:Zk) (k:Nat):List (Zi×Int):=upto (fun n=>Zfy d n (nt d n)) k
theorem ZqV (d:Zk) (k:Nat):Zfp d (k+1)=Zfp d k++[((k:Int),(Z4 d k:Int))]:=by unfold Zfp; rw[List.range_succ,List.map_append]; rfl
theorem ZrL (d:Zk) (k:Nat):ZfS d (k+1)=ZfS d k++[((k:Int),((Z4 d k+nt d k:Nat):Int))]:=by unfold ZfS; rw[List.range_succ,List.map_append]; rfl
theorem ZsP (d:Zk) (k:Nat):∀q∈Zfp d k,q.1≠(k:Int):=fun q hq=>by
 unfold Zfp at hq
 obtain⟨j,hj,rfl⟩:=List.mem_map.1 hq
 rw[List.mem_range] at hj
 show(j:Int)≠(k:Int)
 omega
theorem Zqa (d:Zk) (k:Nat):∀q∈ZfS d k,q.1≠(k:Int):=fun q hq=>by
 unfold ZfS at hq
 obtain⟨j,hj,rfl⟩:=List.mem_map.1 hq
 rw[List.mem_range] at hj
 show(j:Int)≠(k:Int)
 omega
theorem Zmn {d:Zk} {k:Nat} {q:Zi×Int} (h:q∈ZdV d k):∃n j,n<k∧j<nt d n∧q=(ZfM d n j,((Z4 d n+j+1:Nat):Int)):=by
 unfold ZdV upto at h
 obtain⟨n,hn,hq⟩:=List.mem_flatMap.1 h
 unfold Zfy at hq
 obtain⟨j,hj,rfl⟩:=List.mem_map.1 hq
 exact⟨n,j,List.mem_range.1 hn,List.mem_range.1 hj,rfl⟩
theorem Zr3 {d:Zk} (g:ZmS d) (k:Nat):∀q∈ZdV d k,q.1.user≠(k:Int):=fun q hq=>by
 obtain⟨n,j,hn,hj,rfl⟩:=Zmn hq
 show(ZfM d n j).user≠(k:Int)
 rw[(Zfo g hj).2.2.1]
 omega
theorem Zhf {K W:Type} (eq:K→K→Bool) (z:W) (f:Nat→K) (v:Nat→W) {i:Nat} (h0:eq (f i) (f i)=true) (h1:∀j,j<i→eq (f i) (f j)=false):∀k,i<k→Z5 eq ((List.range k).map fun j=>(f j,v j)) (f i) z=v i
 | 0,h=>absurd h (by omega)
 | k+1,h=>by
  rw[List.range_succ,List.map_append]
  by_cases hk:i<k
  ·rw[Zjc eq (f i) z _ _ ⟨(f i,v i),List.mem_map.2 ⟨i,List.mem_range.2 hk,rfl⟩,h0⟩]
   exact Zhf eq z f v h0 h1 k hk
  ·have:i=k:=by omega
   subst this
   refine ZpZ eq (f i) z (v i) h0 _ [] fun q hq=>?_
   obtain⟨j,hj,rfl⟩:=List.mem_map.1 hq
   exact h1 j (List.mem_range.1 hj)
theorem Zqc {d:Zk} {z:Int} (h:inR d z):Z5 (fun ka kb:Int=>(ka==kb)) (Zfp d d.parts.length) z 0=Zfm d z:=by
 have:=Zhf eqI 0 (fun n:Nat=>(n:Int)) (fun n=>(Z4 d n:Int)) (i:=z.toNat) (by simp) (fun j hj=>beq_false_of_ne (by omega)) d.parts.length h.2
 have e:((z.toNat:Nat):Int)=z:=Int.toNat_of_nonneg h.1
 simp only[e] at this
 exact this
theorem Zo3 {d:Zk} {z:Int} (h:inR d z):Z5 (fun ka kb:Int=>(ka==kb)) (ZfS d d.parts.length) z 0=Zhv d z:=by
 have:=Zhf eqI 0 (fun n:Nat=>(n:Int)) (fun n=>((Z4 d n+nt d n:Nat):Int)) (i:=z.toNat) (by simp) (fun j hj=>beq_false_of_ne (by omega)) d.parts.length h.2
 have e:((z.toNat:Nat):Int)=z:=Int.toNat_of_nonneg h.1
 simp only[e] at this
 refine Eq.trans this ?_
 unfold Zhv
 show _=((Z4 d z.toNat+(nt d z.toNat+1):Nat):Int)-1
 omega
theorem Zva {d:Zk} (g:Zc1 d) {f:Zi} (h:f∈d.futures):∃j,j<nt d f.user.toNat∧ZfM d f.user.toNat j=f:=by
 obtain⟨m,hm⟩:=List.getElem?_of_mem h
 have hu:=g.user h
 have e:((f.user.toNat:Nat):Int)=f.user:=Int.toNat_of_nonneg hu.1
 have:=(Znq g.g f.user.toNat).mem (m:Int) |>.2 ⟨m,f,hm,e.symm,rfl⟩
 obtain⟨j,hj,hj2⟩:=List.getElem_of_mem this
 refine⟨j,hj,?_⟩
 unfold ZfM
 rw[List.getElem?_eq_getElem hj]
 show(match d.futures[((tch d f.user.toNat)[j]).toNat]? with | some f=>f | none=>⟨0,0,0⟩)=f
 rw[hj2,Int.toNat_natCast,hm]
theorem ZtM {γ R:Type} (p:Nat→γ→Bool) (out:Nat→γ→R) (fin:R):∀(l:List γ) (i j:Nat) (x:γ),l[j]? = some x→p (i+j) x=true→(∀k y,k<j→l[k]? = some y→p (i+k) y=false)→Zhj p out fin i l=out (i+j) x
 | [],i,j,x,h,_,_=>by cases h
 | y :: l,i,0,x,h,h1,_=>by
  cases h
  unfold Zhj
  rw[Nat.add_zero] at h1
  rw[h1]; rfl
 | y :: l,i,j+1,x,h,h1,h2=>by
  unfold Zhj
  have h0:=h2 0 y (by omega) rfl
  rw[Nat.add_zero] at h0
  rw[h0]
  show Zhj p out fin (i+1) l=_
  rw[show i+(j+1)=i+1+j by omega] at h1 ⊢
  exact ZtM p out fin l (i+1) j x h h1 fun k z hk hz=>by
   have:=h2 (k+1) z (by omega) hz
   rwa [show i+(k+1)=i+1+k by omega] at this
theorem ZxT {d:Zk} (g:Zc1 d) {f:Zi} (h:f∈d.futures) {j:Nat} (hj:j<nt d f.user.toNat) (he:ZfM d f.user.toNat j=f):ZqO d f=((Z4 d f.user.toNat+j+1:Nat):Int):=by
 have pos:∀k (hk:k<nt d f.user.toNat),ZdW d.futures (tch d f.user.toNat)[k]=(ZfM d f.user.toNat k).pos:=fun k hk=>by
  rw[(Zfo g.g hk).2.2.2.1]
  unfold cut
  rw[if_neg (by omega),Nat.add_sub_cancel,List.getElem?_eq_getElem hk]
 unfold ZqO
 rw[ZtM (fun _ z=>ZdW d.futures z==f.pos) (fun i _=>Zfm d f.user+(i:Int)+1) (-1) (tch d f.user.toNat) 0 j _ (List.getElem?_eq_getElem hj) (by show(ZdW d.futures (tch d f.user.toNat)[j]==f.pos)=true; rw[pos j hj,he]; simp) (fun k y hk hy=>by
  have hk2:k<nt d f.user.toNat:=by omega
  have hy2:(tch d f.user.toNat)[k]=y:=Option.some.inj ((List.getElem?_eq_getElem hk2).symm.trans hy)
  have:=ZoH g.g hk hj
  rw[he] at this
  show(ZdW d.futures y==f.pos)=false
  rw[← hy2,pos k hk2]
  exact beq_false_of_ne (by omega))]
 unfold Zfm
 omega
theorem Zrb (f:Zi):eqF f f=true:=by simp[eqF]
theorem ZuE {d:Zk} (g:Zc1 d) {f:Zi} (h:f∈d.futures):Z5 (fun ka kb:Zi=>((ka.maker==kb.maker)&&((ka.user==kb.user)&&((ka.pos==kb.pos)&&true)))) (ZdV d d.parts.length) f 0=ZqO d f:=by
 obtain⟨j,hj,he⟩:=Zva g h
 have hu:=g.user h
 have eu:((f.user.toNat:Nat):Int)=f.user:=Int.toNat_of_nonneg hu.1
 have key:∀k,f.user.toNat<k→Z5 eqF (ZdV d k) f 0=ZqO d f:=by
  intro k
  induction k with
  | zero=>intro hk; exact absurd hk (by omega)
  | succ k ih=>
   intro hk
   rw[show ZdV d (k+1)=ZdV d k++Zfy d k (nt d k) from Zb0 _ k]
   by_cases hlt:f.user.toNat<k
   ·rw[Zjc eqF f 0 _ _ ⟨(f,((Z4 d f.user.toNat+j+1:Nat):Int)),?_,Zrb f⟩]
    ·exact ih hlt
    ·unfold ZdV upto
     refine List.mem_flatMap.2 ⟨f.user.toNat,List.mem_range.2 hlt,?_⟩
     unfold Zfy
     exact List.mem_map.2 ⟨j,List.mem_range.2 hj,by rw[he]⟩
   ·have hk2:k=f.user.toNat:=by omega
    subst hk2
    rw[ZiB eqF f 0 _ _ (fun q hq=>by
     obtain⟨n,i,hn,hi,rfl⟩:=Zmn hq
     refine ZqP (.inl ?_)
     show f.user≠(ZfM d n i).user
     rw[(Zfo g.g hi).2.2.1]
     omega)]
    have:=Zhf eqF 0 (fun i=>ZfM d f.user.toNat i) (fun i=>((Z4 d f.user.toNat+i+1:Nat):Int)) (i:=j) (Zrb _) (fun i hi=>by
     have:=ZoH g.g hi hj
     exact ZqP (.inr (by omega))) (nt d f.user.toNat) hj
    rw[ZxT g h hj he]
    rw[he] at this
    exact this
 exact key d.parts.length hu.2
theorem Ztg {d:Zk} (g:Zc1 d) (hc:∀n:Nat,Zc2 d (n:Int)=some (tch d n)):lp (Zcj d) (0,[],[],[],[],[],[])=some (Zep d d.parts.length,ZdX d d.parts.length,Za9 d d.parts.length,Zfp d d.parts.length,ZfS d d.parts.length,ZdV d d.parts.length):=by
 have hpl:=g.pl
 have key:∀(k i:Nat),i+k=d.parts.length→lp (Zcj d) ((i:Int),Zep d i,ZdX d i,Za9 d i,Zfp d i,ZfS d i,ZdV d i)=some (Zep d d.parts.length,ZdX d d.parts.length,Za9 d d.parts.length,Zfp d d.parts.length,ZfS d d.parts.length,ZdV d d.parts.length):=by
  intro k
  induction k with
  | zero=>
   intro i hi
   have:i=d.parts.length:=by omega
   subst this
   rw[ZaK]
   simp only[Zcj,Zc9,cond_false]
  | succ k ih=>
   intro i hi
   have hi':i<d.parts.length:=by omega
   have hF:=ZdF g i
   have h1:=Zjy d i
   have l1:(Zep d i).length≤1000:=by rw[Zho]; omega
   have l2:(ZdX d i).length≤1000:=by omega
   have l3:(Za9 d i).length≤1000:=by rw[Zen]; omega
   have ih':=ih (i+1) (by omega)
   rw[show ZdX d (i+1)=ZdX d i++ZeS d i (nt d i) from Zb0 _ i,show Zep d (i+1)=Zep d i++Ze4 d i from Zb0 _ i,show Za9 d (i+1)=Za9 d i++ZcV i (nt d i+1) from Zb0 _ i,ZqV,ZrL,show ZdV d (i+1)=ZdV d i++Zfy d i (nt d i) from Zb0 _ i] at ih'
   have pe:=ZuU g hi' (hc i) (ZfS d i) (ZdV d i) l1 l2 l3
   rw[Zta g hi' l1 l2 (Zen d i) (Zqa d i) (Zr3 g.g i),Option.bind_some] at pe
   have p4:Zv (fun ka kb:Int=>(ka==kb)) (Zfp d i) (i:Int) ((Za9 d i).length:Int)=Zfp d i++[((i:Int),(Z4 d i:Int))]:=by
    rw[Zen]
    exact ZhX eqI (i:Int) _ _ fun q hq=>beq_false_of_ne (Ne.symm (ZsP d i q hq))
   have p5:Zv (fun ka kb:Int=>(ka==kb)) (ZfS d i) (i:Int) (Z4 d i:Int)=ZfS d i++[((i:Int),(Z4 d i:Int))]:=ZhX eqI (i:Int) _ _ fun q hq=>beq_false_of_ne (Ne.symm (Zqa d i q hq))
   have lput:=Zq2 (Za9 d i) (Zh.mk (i:Int) 0) (by omega)
   rw[Zen] at lput
   rw[ZaK]
   by_cases h0:0<nt d i
   ·rw[decide_eq_true h0] at pe
    simp only[Zcj,Zcw hi',cond_true,pe,Option.bind_some,p4,ZH hi' (show d.parts.length<9223372036854775808 by omega)]
    exact ih'
   ·have hz:nt d i=0:=by omega
    rw[decide_eq_false h0] at pe
    simp only[Zcj,Zcw hi',cond_true,cond_false,pe,Option.bind_some,p4,lput,p5,ZH hi' (show d.parts.length<9223372036854775808 by omega)]
    rw[hz] at ih'
    simpa [ZeS,ZcV,Zfy] using ih'
 exact key d.parts.length 0 (by omega)
theorem ZsN {d:Zk} (g:Zc1 d) {r3:List Int×List Zj×List Zh×List (Int×Int)×List (Int×Int)×List (Zi×Int)} (h4:r3.2.2.2.1=Zfp d d.parts.length) (h5:r3.2.2.2.2.1=ZfS d d.parts.length) (E:List Zj) (hE:E.length≤1000):lp (ZcF d r3) (0,E)=some (E++ZkG d):=
 have he:=g.el
 Zkf d.edges (by omega) (ZcF d r3) (fun e=>⟨Zhv d e.src,Zfm d e.dst⟩) (fun i x s hi hx hb=>by
  have hm:=List.mem_of_getElem? hx
  have ed:∀b c,ZI b c s=some ():=fun b c=>by unfold ZI; rw[hb]; rfl
  simp only[ZcF,Zcw hi,cond_true,Z1 hx,Option.bind_some,h4,h5,Zo3 (g.src hm),Zqc (g.dst hm),ed,ZH hi (show d.edges.length<9223372036854775808 by omega)]) (fun s=>by simp only[ZcF,Zc9,cond_false]) E (by omega)
theorem ZqR {d:Zk} (g:Zc1 d) {r3:List Int×List Zj×List Zh×List (Int×Int)×List (Int×Int)×List (Zi×Int)} (h5:r3.2.2.2.2.1=ZfS d d.parts.length) (h6:r3.2.2.2.2.2=ZdV d d.parts.length) (E:List Zj) (hE:E.length≤1000):lp (ZcP d r3) (0,E)=some (E++Znd d):=
 have he:=g.fl
 Zkf d.futures (by omega) (ZcP d r3) (fun f=>⟨Zhv d f.maker,ZqO d f⟩) (fun i x s hi hx hb=>by
  have hm:=List.mem_of_getElem? hx
  have ed:∀b c,ZI b c s=some ():=fun b c=>by unfold ZI; rw[hb]; rfl
  simp only[ZcP,Zcw hi,cond_true,Z1 hx,Option.bind_some,h5,h6,Zo3 (g.maker hm),ZuE g hm,ed,ZH hi (show d.futures.length<9223372036854775808 by omega)]) (fun s=>by simp only[ZcP,Zc9,cond_false]) E (by omega)
theorem ZuL {d:Zk} (g:Zc1 d) (hz:ZiM d) {r3:List Int×List Zj×List Zh×List (Int×Int)×List (Int×Int)×List (Zi×Int)} (h4:r3.2.2.2.1=Zfp d d.parts.length) (h5:r3.2.2.2.2.1=ZfS d d.parts.length) (E:List Zj) (hE:E.length≤1000) :
  lp (ZcL d r3) (0,Zep d d.parts.length,E,Za9 d d.parts.length)=some (Zkn d,E++ZcY d d.barriers.length,ZlR d):=by
 have hbl:=g.bl
 have hF:=ZdF g d.parts.length
 have hpl:=g.pl
 have key:∀(k i:Nat),i+k=d.barriers.length→lp (ZcL d r3) ((i:Int),Zep d d.parts.length++List.replicate i 1,E++ZcY d i,Za9 d d.parts.length++Zdb i)=some (Zkn d,E++ZcY d d.barriers.length,ZlR d):=by
  intro k
  induction k with
  | zero=>
   intro i hi
   have:i=d.barriers.length:=by omega
   subst this
   rw[ZaK]
   simp only[ZcL,Zc9,cond_false]
   rfl
  | succ k ih=>
   intro i hi
   have hi':i<d.barriers.length:=by omega
   have hx:d.barriers[i]? = some d.barriers[i]:=List.getElem?_eq_getElem hi'
   have hm:=List.mem_of_getElem? hx
   have hsz:=hz.i _ hm
   have hB:=Zjr hz i
   have lp_:(Za9 d d.parts.length++Zdb i).length=Z4 d d.parts.length+i:=by rw[List.length_append,Zen,Zkb]
   have lw_:(Zep d d.parts.length++List.replicate i (1:Int)).length=Z4 d d.parts.length+i:=by rw[List.length_append,Zho,List.length_replicate]
   have lput:=Zq2 (Za9 d d.parts.length++Zdb i) (Zh.mk (-1) (i:Int)) (by rw[lp_]; omega)
   rw[lp_,show((Z4 d d.parts.length+i:Nat):Int)=ZjY d i from rfl] at lput
   have k4:=fun s=>Zkf d.barriers[i].ins (by omega) (ZdC r3 ((i:Int),Zep d d.parts.length++List.replicate i 1,E++ZcY d i,Za9 d d.parts.length++Zdb i) d.barriers[i]) (fun q=>⟨Zhv d q,ZjY d i⟩) (fun j x s hj hx hb=>by
    have ed:∀b c,ZI b c s=some ():=fun b c=>by unfold ZI; rw[hb]; rfl
    simp only[ZdC,Zcw hj,cond_true,Z1 hx,Option.bind_some,h5,Zo3 (g.ins _ hm x (List.mem_of_getElem? hx)),lput,ed,ZH hj (show d.barriers[i].ins.length<9223372036854775808 by omega)]) (fun s=>by simp only[ZdC,Zc9,cond_false]) s
   have k5:=fun s=>Zkf d.barriers[i].outs (by omega) (ZdE r3 ((i:Int),Zep d d.parts.length++List.replicate i 1,E++ZcY d i,Za9 d d.parts.length++Zdb i) d.barriers[i]) (fun q=>⟨ZjY d i,Zfm d q⟩) (fun j x s hj hx hb=>by
    have ed:∀b c,ZI b c s=some ():=fun b c=>by unfold ZI; rw[hb]; rfl
    simp only[ZdE,Zcw hj,cond_true,Z1 hx,Option.bind_some,h4,Zqc (g.outs _ hm x (List.mem_of_getElem? hx)),lput,ed,ZH hj (show d.barriers[i].outs.length<9223372036854775808 by omega)]) (fun s=>by simp only[ZdE,Zc9,cond_false]) s
   have ih':=ih (i+1) (by omega)
   have eB:ZcY d (i+1)=ZcY d i++ZsF d (ZjY d i) d.barriers[i]:=by
    unfold ZcY
    rw[Zb0,hx]
   rw[eB,ZmG,List.replicate_succ',ZsF,← List.append_assoc,← List.append_assoc,← List.append_assoc,← List.append_assoc] at ih'
   rw[ZaK]
   simp only[ZcL,Zcw hi',cond_true,Z1 hx,Option.bind_some,Zgr _ _ (show(Zep d d.parts.length++List.replicate i (1:Int)).length≤10000 by rw[lw_]; omega) (show(Za9 d d.parts.length++Zdb i).length≤10000 by rw[lp_]; omega),k4 (E++ZcY d i) (by rw[List.length_append]; omega),
    k5 (E++ZcY d i++List.map (fun q=>⟨Zhv d q,ZjY d i⟩) d.barriers[i].ins) (by simp only[List.length_append,List.length_map]; omega),ZH hi' (show d.barriers.length<9223372036854775808 by omega)]
   exact ih'
 have:=key d.barriers.length 0 (by omega)
 simpa [ZcY,upto,Zdb] using this
theorem Zkq {d:Zk} (g:Zc1 d) (hz:ZiM d):Zns (ZkK d).dag:=by
 have hE:=ZlS g
 have hB:=Zjr hz d.barriers.length
 have hbl:=g.bl
 have hF:=ZdF g d.parts.length
 have hpl:=g.pl
 constructor
 ·show(Zkn d).length<_
  unfold Zkn
  rw[List.length_append,Zho,List.length_replicate]
  omega
 ·show(Zsv d).length<_
  unfold Zsv
  rw[List.length_append]
  omega
noncomputable def Zro (d:Zk):Zg1×Int:=
 bif ZfX d==0 then (bif Zjq (ZkK d).dag==0 then (ZkK d,0) else (⟨⟨[],[]⟩,[]⟩,70)) else (⟨⟨[],[]⟩,[]⟩,ZfX d)
theorem Zx9 {d:Zk} (hz:ZiM d):ZfK d=some (Zro d):=by
 have hs:=hz.short
 unfold ZfK Zro
 rw[Ztr d hs,Option.bind_some]
 by_cases hc:ZfX d=0
 ·have g:=ZoA hc
  have hE:=ZlS g
  have h3:(ZdX d d.parts.length++ZkG d).length≤1000:=by unfold Zjp at hE; rw[List.length_append] at hE; omega
  have h4:(ZdX d d.parts.length).length≤1000:=by rw[List.length_append] at h3; omega
  rw[hc]
  simp only[bne_self_eq_false,cond_false,beq_self_eq_true,cond_true,Ztg g (ZAE hs (by have:=g.fl; omega) hc),Option.bind_some]
  rw[ZsN g rfl rfl _ h4]
  simp only[Option.bind_some]
  rw[ZqR g rfl rfl _ h3]
  simp only[Option.bind_some]
  rw[show ZdX d d.parts.length++ZkG d++Znd d=Zjp d from rfl,ZuL g hz rfl rfl _ hE]
  simp only[Option.bind_some]
  rw[show Zae.mk (Zkn d) (Zjp d++ZcY d d.barriers.length)=(ZkK d).dag from rfl,Zsq _ (Zkq g hz),Option.bind_some]
  by_cases hk:Zjq (ZkK d).dag=0
  ·rw[hk]; rfl
  ·rw[beq_false_of_ne hk,bne,beq_false_of_ne hk]; rfl
 ·rw[beq_false_of_ne hc,bne,beq_false_of_ne hc]; rfl
theorem ZsG {d:Zk} (hz:ZiM d):ZfB d=some (Zro d):=by
 have hs:=hz.short
 unfold ZfB Zro
 rw[Zuy d hs,Option.bind_some]
 by_cases hc:ZfX d=0
 ·have g:=ZoA hc
  rw[hc]
  simp only[bne_self_eq_false,cond_false,beq_self_eq_true,cond_true,Zs9 g hz,Option.bind_some,Zsu _ (Zkq g hz)]
  by_cases hk:Zjq (ZkK d).dag=0
  ·rw[hk]; rfl
  ·rw[beq_false_of_ne hk,bne,beq_false_of_ne hk]; rfl
 ·rw[beq_false_of_ne hc,bne,beq_false_of_ne hc]; rfl
end Go.Proofs.YtljgncbdagmeeaaDoor
namespace Go.Proofs.YtljgncbdagmeeaaDoor
open Go Go.Proofs.YtljgncbdagmeeaaDoorE
set_option linter.unusedVariables false
set_option linter.unusedSimpArgs false
theorem ZqU {γ δ:Type} (a:List γ) (b:List δ):(((a.length:Int)) != (b.length:Int)) = !decide (a.length=b.length):=by
 by_cases h:a.length=b.length
 ·rw[decide_eq_true h,h]; simp
 ·rw[decide_eq_false h]
  have:((a.length:Int))≠(b.length:Int):=by omega
  simp[bne_iff_ne.2 this]
theorem Zuz (x y:Zj):((x.src==y.src)&&((x.dst==y.dst)&&true))=decide (x=y):=by
 cases x; cases y
 simp[Zj.mk.injEq,Bool.beq_eq_decide_eq]
theorem ZuJ (x y:Int):(x != y) = !decide (x=y):=by
 by_cases h:x=y
 ·subst h; simp
 ·rw[decide_eq_false h]; simpa using h
theorem ZAB (a b:Zae):(decide (a.work=b.work)&&decide (a.edges=b.edges))=decide (a=b):=by
 cases a; cases b
 simp[Zae.mk.injEq]
theorem Zrl (a b:Zae) (h1:a.work.length<9223372036854775808) (h2:a.edges.length<9223372036854775808):Zf8 a b=some (decide (a=b)):=by
 unfold Zf8
 rw[ZqU,ZqU,← ZAB]
 by_cases l1:a.work.length=b.work.length
 case neg=>rw[decide_eq_false l1,decide_eq_false (show ¬a.work=b.work from fun e=>l1 (by rw[e]))]; rfl
 by_cases l2:a.edges.length=b.edges.length
 case neg=>rw[decide_eq_true l1,decide_eq_false l2,decide_eq_false (show ¬a.edges=b.edges from fun e=>l2 (by rw[e])),Bool.and_false]; rfl
 rw[decide_eq_true l1,decide_eq_true l2]
 simp only[Bool.not_true,cond_false]
 rw[Zqw a.work b.work l1 (Zee a b) (fun i x y hi hx hy=>by
  simp only[Zee,Zcw hi,Z1 hx,Z1 hy,Option.bind_some,ZH hi h1,cond_true,ZuJ]
  cases decide (x=y)<;>rfl) (by simp only[Zee,Zc9]; rfl)]
 cases decide (a.work=b.work) with
 | false=>rfl
 | true=>
  simp only[cond_true,Option.bind_some]
  rw[Zqw a.edges b.edges l2 (Zeb a b) (fun i x y hi hx hy=>by
   simp only[Zeb,Zcw hi,Z1 hx,Z1 hy,Option.bind_some,ZH hi h2,cond_true,Zuz]
   cases decide (x=y)<;>rfl) (by simp only[Zeb,Zc9]; rfl)]
  cases decide (a.edges=b.edges)<;>rfl
theorem ZsO (x y:Zh):((x.part==y.part)&&((x.step==y.step)&&true))=decide (x=y):=by
 cases x; cases y
 simp[Zh.mk.injEq,Bool.beq_eq_decide_eq]
theorem ZrW (a b:Zg1) (h1:a.dag.work.length<9223372036854775808) (h2:a.dag.edges.length<9223372036854775808) (h3:a.pieces.length<9223372036854775808):Zf3 a b=some (decide (a.dag=b.dag)&&decide (a.pieces=b.pieces)):=by
 unfold Zf3
 rw[ZqU]
 by_cases l1:a.pieces.length=b.pieces.length
 case neg=>rw[decide_eq_false l1,decide_eq_false (show ¬a.pieces=b.pieces from fun e=>l1 (by rw[e])),Bool.and_false]; rfl
 rw[decide_eq_true l1]
 simp only[Bool.not_true,cond_false]
 rw[Zqw a.pieces b.pieces l1 (Zec a b) (fun i x y hi hx hy=>by
  simp only[Zec,Zcw hi,Z1 hx,Z1 hy,Option.bind_some,ZH hi h3,cond_true,ZsO]
  cases decide (x=y)<;>rfl) (by simp only[Zec,Zc9]; rfl)]
 simp only[Zrl _ _ h1 h2]
 cases decide (a.pieces=b.pieces)<;>cases decide (a.dag=b.dag)<;>rfl
end Go.Proofs.YtljgncbdagmeeaaDoor
namespace Go.Proofs.YtljgncbdagmeeaaDoor
open Go Go.Proofs.YtljgncbdagmeeaaDoorE
set_option linter.unusedVariables false
set_option linter.unusedSimpArgs false
theorem ZgA:∀r,Zfz=some r→evD ctx 14 []=some (D.bool r):=fun r h=>by
  cases h
  exact ZzX 100 (by kernel_rfl)
def ZlF (r:Bool):D:=(D.bool r)
def ZiL (t0:Bool) (t1:Bool) (t2:Bool) (t3:Bool) (a:Zk):(Unit⊕Unit)→Ex×List V×Zo
  | (.inl r)=>(.ret,[(.ptr 0 0),(.d (D.bool false))],[(.cells (dV t0 t1 t2 t3 a))])
  | (.inr r)=>(.exit 0,[(.ptr 0 0),.bad],[(.cells (dV t0 t1 t2 t3 a))])
theorem Zmp {t0:Bool} {t1:Bool} {t2:Bool} {t3:Bool} {a:Zk}:∀(s0:Int) (r:(Unit⊕Unit)),lp (ZeB a) s0=some r→lpW ctx 0 [1,3] [1,2] Zwq [(.ptr 0 0),(.d (Zb s0))] [(.cells (dV t0 t1 t2 t3 a))]=some ((ZiL t0 t1 t2 t3 a) r):=by
 refine Zam (ZiL t0 t1 t2 t3 a) ?_
 intro s0 rcl ih
 show ZM _ _ (lpW _ _ _ _ _ _ _)
 unfold ZeB
 rw[Zao]
 conv=>arg 3; whnf
 refine Zn (ZD _ _) ?_
 conv=>arg 3; whnf
 refine Ze rfl ?_ ?_
 ·conv=>arg 3; whnf
  refine Ze rfl ?_ ?_
  ·conv=>arg 3; whnf
   refine Zl rfl rfl fun x1 hx1=>?_
   conv=>arg 3; whnf
   refine Zn (ZD _ _) ?_
   conv=>arg 3; whnf
   refine Ze rfl ?_ ?_
   ·conv=>arg 3; whnf
    exact Zc rfl
   ·conv=>arg 3; whnf
    refine Zg (Zbb rfl hx1) ?_
    conv=>arg 3; whnf
    refine Zn (ZD _ _) ?_
    conv=>arg 3; whnf
    refine Ze rfl ?_ ?_
    ·conv=>arg 3; whnf
     exact Zc rfl
    ·conv=>arg 3; whnf
     exact Zf (ih _)
  ·conv=>arg 3; whnf
   exact Zc rfl
 ·conv=>arg 3; whnf
  exact Zc rfl
theorem Zo9 {t0:Bool} {t1:Bool} {t2:Bool} {t3:Bool} {a:Zk}:∀r,(ZgI a)=some r→evD ctx 15 [(.d (D.agg (dA t0 t1 t2 t3 a)))]=some (ZlF r):=by
 show ZM _ (fun r rhs=>rhs=some (ZlF r)) _
 unfold ZgI
 rw[ZaV ctx 15 Zz0 _ rfl rfl]
 conv=>arg 3; whnf
 refine Zd _ (Zmp _) fun r2 hr2=>?_
 clear hr2
 rcases r2 with r2 | r2
 ·conv=>arg 3; whnf
  exact Zc rfl
 ·conv=>arg 3; whnf
  refine Zn (ZD _ _) ?_
  conv=>arg 3; whnf
  refine Ze rfl ?_ ?_
  ·conv=>arg 3; whnf
   refine Zn (ZD _ _) ?_
   conv=>arg 3; whnf
   refine Ze rfl ?_ ?_
   ·conv=>arg 3; whnf
    refine Zn (ZD _ _) ?_
    conv=>arg 3; whnf
    refine Ze rfl ?_ ?_
    ·conv=>arg 3; whnf
     refine Zn (ZD _ _) ?_
     conv=>arg 3; whnf
     refine Ze rfl ?_ ?_
     ·conv=>arg 3; whnf
      exact Zc rfl
     ·conv=>arg 3; whnf
      exact Zc rfl
    ·conv=>arg 3; whnf
     exact Zc rfl
   ·conv=>arg 3; whnf
    exact Zc rfl
  ·conv=>arg 3; whnf
   exact Zc rfl
def ZlJ (t0:Bool) (t1:Bool) (t2:Bool) (t3:Bool) (a:Zk):(List Zr)→V×Zo
  | r=>((.agg [(.d (Zb a.period)),(.d (Zb a.deadline)),(.sl 0 3),(.sl 1 2),(.sl 2 3),(.sl 3 2)]),[(.arr 3 (List.map ZZ a.parts)),(.arr 2 (List.map Zt a.edges)),(.arr 3 (List.map Zq a.futures)),(.arr 2 (List.map Zw r))])
def ZiG (t0:Bool) (t1:Bool) (t2:Bool) (t3:Bool) (a:Zk):(List Zr)→Ex×List V×Zo
  | r=>(.exit 0,[(.ptr 0 0),(.ptr 1 0)],[(.cells [(.d (Zb 0)),(.d (Zb 0)),(.sl 2 3),(.sl 3 2),(.sl 4 3),(.sl 5 2)]),(.cells [(.d (Zb a.period)),(.d (Zb a.deadline)),(.sl 6 3),(.sl 7 2),(.sl 8 3),(.sl 9 2)]),(.arr 3 []),(.arr 2 []),(.arr 3 []),(.arr 2 []),(.arr 3 (List.map ZZ a.parts)),(.arr 2 (List.map Zt a.edges)),(.arr 3 (List.map Zq a.futures)),(.arr 2 (List.map Zw r))])
theorem Zmg {t0:Bool} {t1:Bool} {t2:Bool} {t3:Bool} {a:Zk}:∀(s0:Int×(List Zr)) (r:(List Zr)),lp (ZdT a) s0=some r→lpW ctx 0 [1,2,3,4] [2,3] ZxA [(.ptr 0 0),(.ptr 1 0),(.ptr 2 0),(.d (Zb s0.1))] [(.cells (dV t0 t1 t2 t3 a)),(.cells [(.d (Zb 0)),(.d (Zb 0)),(.sl 3 3),(.sl 4 2),(.sl 5 3),(.sl 6 2)]),(.cells [(.d (Zb a.period)),(.d (Zb a.deadline)),(.sl 7 3),(.sl 8 2),(.sl 9 3),(.sl 10 2)]),(.arr 3 []),(.arr 2 []),(.arr 3 []),(.arr 2 []),(.arr 3 (List.map ZZ a.parts)),(.arr 2 (List.map Zt a.edges)),(.arr 3 (List.map Zq a.futures)),(.arr 2 (List.map Zw s0.2))]=some ((ZiG t0 t1 t2 t3 a) r):=by
 refine Zam (ZiG t0 t1 t2 t3 a) ?_
 intro s0 rcl ih
 show ZM _ _ (lpW _ _ _ _ _ _ _)
 unfold ZdT
 rw[Zao]
 conv=>arg 3; whnf
 refine Zn (ZD _ _) ?_
 conv=>arg 3; whnf
 refine Ze rfl ?_ ?_
 ·conv=>arg 3; whnf
  refine Zl rfl rfl fun x1 hx1=>?_
  conv=>arg 3; whnf
  refine Zbs (ZkL (f:=Zb) (fun _=>⟨rfl,rfl⟩) x1.ins 0) ?_
  conv=>arg 3; whnf
  refine Ze (ZkI Zb x1.ins) ?_ ?_
  ·conv=>arg 3; whnf
   refine Zn (rfl:_=List.map Zb x1.ins) ?_
   conv=>arg 3; whnf
   refine Zg (Zbb rfl hx1) ?_
   conv=>arg 3; whnf
   refine Zbs (ZkL (f:=Zb) (fun _=>⟨rfl,rfl⟩) x1.outs 0) ?_
   conv=>arg 3; whnf
   refine Ze (ZkI Zb x1.outs) ?_ ?_
   ·conv=>arg 3; whnf
    refine Zn (rfl:_=List.map Zb x1.outs) ?_
    conv=>arg 3; whnf
    refine Zbs rfl ?_
    conv=>arg 3; whnf
    refine Ze (Zd5 Zw s0.2 1) ?_ ?_
    ·conv=>arg 3; whnf
     refine Zn (Zd4 Zw s0.2 [x1]) ?_
     conv=>arg 3; whnf
     exact Zf (ih _)
    ·exact Zac
   ·exact Zac
  ·exact Zac
 ·conv=>arg 3; whnf
  exact Zc rfl
theorem Zoz {t0:Bool} {t1:Bool} {t2:Bool} {t3:Bool} {a:Zk}:∀r,(ZgQ a)=some r→evW ctx 17 [(.d (D.agg (dA t0 t1 t2 t3 a)))] []=some ((ZlJ t0 t1 t2 t3 a) r):=by
 show ZM _ (fun r rhs=>rhs=some ((ZlJ t0 t1 t2 t3 a) r)) _
 unfold ZgQ
 rw[ZfY ctx 17 ZAe _ _ rfl rfl]
 conv=>arg 3; whnf
 refine Zbs (ZkL (f:=ZZ) (fun _=>⟨rfl,rfl⟩) a.parts 0) ?_
 conv=>arg 3; whnf
 refine Ze (ZkI ZZ a.parts) ?_ ?_
 ·conv=>arg 3; whnf
  refine Zn (rfl:_=List.map ZZ a.parts) ?_
  conv=>arg 3; whnf
  refine Zbs (ZkL (f:=Zt) (fun _=>⟨rfl,rfl⟩) a.edges 0) ?_
  conv=>arg 3; whnf
  refine Ze (ZkI Zt a.edges) ?_ ?_
  ·conv=>arg 3; whnf
   refine Zn (rfl:_=List.map Zt a.edges) ?_
   conv=>arg 3; whnf
   refine Zbs (ZkL (f:=Zq) (fun _=>⟨rfl,rfl⟩) a.futures 0) ?_
   conv=>arg 3; whnf
   refine Ze (ZkI Zq a.futures) ?_ ?_
   ·conv=>arg 3; whnf
    refine Zn (rfl:_=List.map Zq a.futures) ?_
    conv=>arg 3; whnf
    refine Zd _ (Zmg _) fun r2 hr2=>?_
    conv=>arg 3; whnf
    exact Zc rfl
   ·exact Zac
  ·exact Zac
 ·exact Zac
def ZjN (r:Bool):D:=(D.bool r)
theorem ZbR {a:Int} {b:Int} {c:Int}:∀r,(Zbn a b c)=some r→evD ctx 78 [(.d (Zb a)),(.d (Zb b)),(.d (Zb c))]=some (ZjN r):=by
 show ZM _ (fun r rhs=>rhs=some (ZjN r)) _
 unfold Zbn
 rw[ZaV ctx 78 Zz7 _ rfl rfl]
 conv=>arg 3; whnf
 refine Ze rfl ?_ ?_
 ·conv=>arg 3; whnf
  refine Ze rfl ?_ ?_
  ·conv=>arg 3; whnf
   exact Zc rfl
  ·conv=>arg 3; whnf
   exact Zc rfl
 ·conv=>arg 3; whnf
  exact Zc rfl
def ZlE (r:Int):D:=(Zb r)
theorem Zor {a:Int}:∀r,(ZgF a)=some r→evD ctx 107 [(.d (Zb a))]=some (ZlE r):=by
 show ZM _ (fun r rhs=>rhs=some (ZlE r)) _
 unfold ZgF
 rw[ZaV ctx 107 Zv5 _ rfl rfl]
 conv=>arg 3; whnf
 refine Ze rfl ?_ ?_
 ·conv=>arg 3; whnf
  exact Zc rfl
 ·conv=>arg 3; whnf
  refine Ze rfl ?_ ?_
  ·conv=>arg 3; whnf
   exact Zc rfl
  ·conv=>arg 3; whnf
   exact Zc rfl
def Zfv (r:Int):D:=(Zb r)
theorem Zhq {a:Int}:∀r,(Zci a)=some r→evD ctx 129 [(.d (D.int .u64 a))]=some (Zfv r):=by
 show ZM _ (fun r rhs=>rhs=some (Zfv r)) _
 unfold Zci
 rw[ZaV ctx 129 ZwZ _ rfl rfl]
 conv=>arg 3; whnf
 refine Zan rfl ?_
 conv=>arg 3; whnf
 refine Zan rfl ?_
 conv=>arg 3; whnf
 refine Zan rfl ?_
 conv=>arg 3; whnf
 refine Zan rfl ?_
 conv=>arg 3; whnf
 refine Zan rfl ?_
 conv=>arg 3; whnf
 refine Zan rfl ?_
 conv=>arg 3; whnf
 exact Zc rfl
def Zf1 (r:Int):D:=(Zb r)
theorem ZiD {a:Int}:∀r,(Zcz a)=some r→evD ctx 108 [(.d (D.int .u64 a))]=some (Zf1 r):=by
 show ZM _ (fun r rhs=>rhs=some (Zf1 r)) _
 unfold Zcz
 rw[ZaV ctx 108 ZvR _ rfl rfl]
 conv=>arg 3; whnf
 refine Zp _ Zhq rfl fun x0 hx0=>?_
 conv=>arg 3; whnf
 exact Zc rfl
theorem ZAK (n:Int):0≤IntKind.u64.wrap n∧IntKind.u64.wrap n<18446744073709551616:=by
  have:IntKind.u64.wrap n=n % 18446744073709551616:=by
    show(if (false&&decide (n % 18446744073709551616 ≥ 9223372036854775808))=true then n % 18446744073709551616-18446744073709551616 else n % 18446744073709551616)=_
    simp
  rw[this]
  omega
theorem ZBE (n:Int):∃j:Nat,j<64∧(IntKind.u64.wrap n).fdiv (2 ^ (min (Int.toNat 58) IntKind.u64.bits))=(j:Int):=by
  obtain⟨h1,h2⟩:=ZAK n
  have e:(2:Int) ^ (min (Int.toNat 58) IntKind.u64.bits)=288230376151711744:=by decide
  rw[e,Int.fdiv_eq_ediv_of_nonneg _ (by omega)]
  refine⟨((IntKind.u64.wrap n) / 288230376151711744).toNat,?_,?_⟩<;>omega
theorem ZBM:∀j:Nat,j<64→Zdp [] 1 false (.d (.rptr (Zwr.drop (j*1))))=some (.d (.int .u8 (Zq3.getD j 0))):=by
  have key:((List.range 64).all fun j=>match Zdp [] 1 false (.d (.rptr (Zwr.drop (j*1)))) with | some (.d (.int .u8 z))=>z==Zq3.getD j 0 | _=>false)=true:=by rfl
  intro j hj
  have:=List.all_eq_true.1 key j (by simpa using hj)
  split at this
  · rename_i z hz
    rw[hz,eq_of_beq this]
  · cases this
def ZgU (r:Int):D:=Zb r
theorem Zgn (a:Int):∀r,Zdu a=some r→evD ctx 131 [.d (.int .u64 a)]=some (ZgU r):=by
  intro r hr
  unfold Zdu at hr
  have hr:=Option.some.inj hr
  subst hr
  rw[ZaV ctx 131 Zxh _ rfl rfl]
  by_cases h:(a==0)=true
  · conv=>lhs; whnf
    rw[h,Zyg]
    rfl
  · replace h:(a==0)=false:=by simpa using h
    obtain⟨j,hj,e⟩:=ZBE (IntKind.u64.wrap ((BitVec.ofInt IntKind.u64.bits a &&& BitVec.ofInt IntKind.u64.bits (IntKind.u64.wrap (0-a))).toNat:Int)*285870213051353865)
    conv=>lhs; whnf
    rw[h,ZyC]
    conv=>lhs; whnf
    refine(ZBF (by rfl)).trans ?_
    conv=>lhs; whnf
    rw[e]
    refine(ZAv (by simp; omega)).trans ?_
    conv=>lhs; whnf
    erw [ZBM j hj]
    rfl
def Ze8 (r:Int):D:=(Zb r)
theorem Zg2 {a:Int}:∀r,(Zcy a)=some r→evD ctx 109 [(.d (D.int .u64 a))]=some (Ze8 r):=by
 show ZM _ (fun r rhs=>rhs=some (Ze8 r)) _
 unfold Zcy
 rw[ZaV ctx 109 Zwd _ rfl rfl]
 conv=>arg 3; whnf
 refine Zp _ (Zgn _) rfl fun x0 hx0=>?_
 conv=>arg 3; whnf
 exact Zc rfl
def ZnF (r:(Int×Bool)):D:=(D.tup [(Zb r.1),(D.bool r.2)])
theorem ZqG {a:Int}:∀r,(ZiO a)=some r→evD ctx 64 [(.d (Zb a))]=some (ZnF r):=by
 show ZM _ (fun r rhs=>rhs=some (ZnF r)) _
 unfold ZiO
 rw[ZaV ctx 64 Zzr _ rfl rfl]
 conv=>arg 3; whnf
 refine Zp _ Zor rfl fun x0 hx0=>?_
 conv=>arg 3; whnf
 refine Ze rfl ?_ ?_
 ·conv=>arg 3; whnf
  exact Zc rfl
 ·conv=>arg 3; whnf
  refine Zp _ ZiD rfl fun x1 hx1=>?_
  conv=>arg 3; whnf
  refine Ze rfl ?_ ?_
  ·conv=>arg 3; whnf
   exact Zc rfl
  ·conv=>arg 3; whnf
   refine Zp _ Zg2 rfl fun x2 hx2=>?_
   conv=>arg 3; whnf
   exact Zc rfl
def Zlw (r:Bool):D:=(D.bool r)
theorem Zot {a:ZX}:∀r,(ZeO a)=some r→evD ctx 80 [(.d (D.agg [(Zb a.op),(Zb a.arg),(Zb a.work)]))]=some (Zlw r):=by
 show ZM _ (fun r rhs=>rhs=some (Zlw r)) _
 unfold ZeO
 rw[ZaV ctx 80 Zz9 _ rfl rfl]
 conv=>arg 3; whnf
 refine Zp _ ZbR rfl fun x0 hx0=>?_
 conv=>arg 3; whnf
 refine Ze rfl ?_ ?_
 ·conv=>arg 3; whnf
  refine Zp _ ZbR rfl fun x1 hx1=>?_
  conv=>arg 3; whnf
  refine Ze rfl ?_ ?_
  ·conv=>arg 3; whnf
   refine Zp _ ZbR rfl fun x2 hx2=>?_
   conv=>arg 3; whnf
   refine Ze rfl ?_ ?_
   ·conv=>arg 3; whnf
    exact Zc rfl
   ·conv=>arg 3; whnf
    exact Zc rfl
  ·conv=>arg 3; whnf
   exact Zc rfl
 ·conv=>arg 3; whnf
  exact Zc rfl
def Zcm (r:Int):D:=(Zb r)
def Zb1 (t0:Bool) (a:(List ZX)):(Int⊕Unit)→Ex×List V×Zo
  | (.inl r)=>(.ret,[(.d (Zb r))],[])
  | (.inr r)=>(.exit 0,[.bad],[])
theorem Zeo {t0:Bool} {a:(List ZX)}:∀(s0:Int) (r:(Int⊕Unit)),lp (ZaT a (fun z0=>ZeO z0)) s0=some r→lpW ctx 0 [0,1,7,8] [4] Zt8 [(.d (D.list t0 (List.map ZZ a))),(.d (D.fn 80 [])),(.d (Zb (a.length:Int))),(.d (Zb s0))] []=some ((Zb1 t0 a) r):=by
 refine Zam (Zb1 t0 a) ?_
 intro s0 rcl ih
 show ZM _ _ (lpW _ _ _ _ _ _ _)
 unfold ZaT
 rw[Zao]
 conv=>arg 3; whnf
 refine Ze rfl ?_ ?_
 ·conv=>arg 3; whnf
  refine Zl rfl rfl fun x1 hx1=>?_
  conv=>arg 3; whnf
  refine Zp _ Zot rfl fun x2 hx2=>?_
  conv=>arg 3; whnf
  refine Ze rfl ?_ ?_
  ·conv=>arg 3; whnf
   exact Zc rfl
  ·conv=>arg 3; whnf
   exact Zf (ih _)
 ·conv=>arg 3; whnf
  exact Zc rfl
theorem ZeF {t0:Bool} {a:(List ZX)}:∀r,(ZbQ a (fun z0=>ZeO z0))=some r→evD ctx 118 [(.d (D.list t0 (List.map ZZ a))),(.d (D.fn 80 []))]=some (Zcm r):=by
 show ZM _ (fun r rhs=>rhs=some (Zcm r)) _
 unfold ZbQ
 rw[ZaV ctx 118 ZwI _ rfl rfl]
 conv=>arg 3; whnf
 refine Zn (ZD _ _) ?_
 conv=>arg 3; whnf
 refine Zd _ (Zeo _) fun r3 hr3=>?_
 clear hr3
 rcases r3 with r3 | r3
 ·conv=>arg 3; whnf
  exact Zc rfl
 ·conv=>arg 3; whnf
  exact Zc rfl
def Zb4 (r:Bool):D:=(D.bool r)
theorem Zeq {t0:Bool} {a:(List ZX)}:∀r,(ZaU a (fun z0=>ZeO z0))=some r→evD ctx 79 [(.d (D.list t0 (List.map ZZ a))),(.d (D.fn 80 []))]=some (Zb4 r):=by
 show ZM _ (fun r rhs=>rhs=some (Zb4 r)) _
 unfold ZaU
 rw[ZaV ctx 79 Zzh _ rfl rfl]
 conv=>arg 3; whnf
 refine Zp _ ZeF rfl fun x0 hx0=>?_
 conv=>arg 3; whnf
 refine Ze rfl ?_ ?_
 ·conv=>arg 3; whnf
  exact Zc rfl
 ·conv=>arg 3; whnf
  exact Zc rfl
def ZmT (r:Bool):D:=(D.bool r)
theorem ZlB {t0:Bool} {t1:Bool} {t2:Bool} {t3:Bool} {a:Zk} {b:Int} {c:Int}:∀r,(Zgu a b c)=some r→evD ctx 81 [(.d (D.agg (dA t0 t1 t2 t3 a))),(.d (Zb b)),(.d (Zb c))]=some (ZmT r):=by
 show ZM _ (fun r rhs=>rhs=some (ZmT r)) _
 unfold Zgu
 rw[ZaV ctx 81 Zze _ rfl rfl]
 conv=>arg 3; whnf
 refine Ze rfl ?_ ?_
 ·conv=>arg 3; whnf
  refine Zn (ZD _ _) ?_
  conv=>arg 3; whnf
  refine Zp _ ZbR rfl fun x0 hx0=>?_
  conv=>arg 3; whnf
  refine Ze rfl ?_ ?_
  ·conv=>arg 3; whnf
   refine Zn (ZD _ _) ?_
   conv=>arg 3; whnf
   refine Zp _ ZbR rfl fun x1 hx1=>?_
   conv=>arg 3; whnf
   refine Ze rfl ?_ ?_
   ·conv=>arg 3; whnf
    exact Zc rfl
   ·conv=>arg 3; whnf
    exact Zc rfl
  ·conv=>arg 3; whnf
   exact Zc rfl
 ·conv=>arg 3; whnf
  exact Zc rfl
def ZeU (r:Int):D:=(Zb r)
def Zex (t0:Bool) (a:(List Zj)) (b:Zj):(Int⊕Unit)→Ex×List V×Zo
  | (.inl r)=>(.ret,[(.d (Zb r))],[])
  | (.inr r)=>(.exit 0,[.bad],[])
theorem Zga {t0:Bool} {a:(List Zj)} {b:Zj}:∀(s0:Int) (r:(Int⊕Unit)),lp (Zbd a b) s0=some r→lpW ctx 0 [0,3,7,8] [4] ZtO [(.d (D.list t0 (List.map Zt a))),(.ptr 0 0),(.d (Zb (a.length:Int))),(.d (Zb s0))] [(.cells [(.d (Zb b.src)),(.d (Zb b.dst))])]=some ((Zex t0 a b) r):=by
 refine Zam (Zex t0 a b) ?_
 intro s0 rcl ih
 show ZM _ _ (lpW _ _ _ _ _ _ _)
 unfold Zbd
 rw[Zao]
 conv=>arg 3; whnf
 refine Ze rfl ?_ ?_
 ·conv=>arg 3; whnf
  refine Zl rfl rfl fun x1 hx1=>?_
  conv=>arg 3; whnf
  refine Ze rfl ?_ ?_
  ·conv=>arg 3; whnf
   exact Zc rfl
  ·conv=>arg 3; whnf
   exact Zf (ih _)
 ·conv=>arg 3; whnf
  exact Zc rfl
theorem ZgW {t0:Bool} {a:(List Zj)} {b:Zj}:∀r,(Zco a b)=some r→evD ctx 102 [(.d (D.list t0 (List.map Zt a))),(.d (D.agg [(Zb b.src),(Zb b.dst)]))]=some (ZeU r):=by
 show ZM _ (fun r rhs=>rhs=some (ZeU r)) _
 unfold Zco
 rw[ZaV ctx 102 Zv3 _ rfl rfl]
 conv=>arg 3; whnf
 refine Zn (ZD _ _) ?_
 conv=>arg 3; whnf
 refine Zd _ (Zga _) fun r2 hr2=>?_
 clear hr2
 rcases r2 with r2 | r2
 ·conv=>arg 3; whnf
  exact Zc rfl
 ·conv=>arg 3; whnf
  exact Zc rfl
def Zey (r:Bool):D:=(D.bool r)
theorem Zel {t0:Bool} {a:(List Zj)} {b:Zj}:∀r,(ZaS a b)=some r→evD ctx 56 [(.d (D.list t0 (List.map Zt a))),(.d (D.agg [(Zb b.src),(Zb b.dst)]))]=some (Zey r):=by
 show ZM _ (fun r rhs=>rhs=some (Zey r)) _
 unfold ZaS
 rw[ZaV ctx 56 ZzB _ rfl rfl]
 conv=>arg 3; whnf
 refine Zp _ ZgW rfl fun x0 hx0=>?_
 conv=>arg 3; whnf
 refine Ze rfl ?_ ?_
 ·conv=>arg 3; whnf
  exact Zc rfl
 ·conv=>arg 3; whnf
  exact Zc rfl
def Zi2 (r:Bool):D:=(D.bool r)
theorem ZmE {a:Zi} {b0:Int} {b1:Int} {b2:Int}:∀r,(Zc3 a b1 b2)=some r→evD ctx 82 [(.d (D.agg [(Zb a.maker),(Zb a.user),(Zb a.pos)])),(.d (D.rptr [(Zb b0),(Zb b1),(Zb b2)]))]=some (Zi2 r):=by
 show ZM _ (fun r rhs=>rhs=some (Zi2 r)) _
 unfold Zc3
 rw[ZaV ctx 82 Zz1 _ rfl rfl]
 conv=>arg 3; whnf
 refine Ze rfl ?_ ?_
 ·conv=>arg 3; whnf
  refine Ze rfl ?_ ?_
  ·conv=>arg 3; whnf
   exact Zc rfl
  ·conv=>arg 3; whnf
   exact Zc rfl
 ·conv=>arg 3; whnf
  exact Zc rfl
def ZbK (r:Int):D:=(Zb r)
def Zbt (t0:Bool) (a:(List Zi)) (b0:Int) (b1:Int) (b2:Int):(Int⊕Unit)→Ex×List V×Zo
  | (.inl r)=>(.ret,[(.d (Zb r))],[])
  | (.inr r)=>(.exit 0,[.bad],[])
theorem Zdi {t0:Bool} {a:(List Zi)} {b0:Int} {b1:Int} {b2:Int}:∀(s0:Int) (r:(Int⊕Unit)),lp (ZaC a (fun z0=>Zc3 z0 b1 b2)) s0=some r→lpW ctx 0 [0,1,7,8] [4] ZtD [(.d (D.list t0 (List.map Zq a))),(.d (D.fn 82 [(D.rptr [(Zb b0),(Zb b1),(Zb b2)])])),(.d (Zb (a.length:Int))),(.d (Zb s0))] []=some ((Zbt t0 a b0 b1 b2) r):=by
 refine Zam (Zbt t0 a b0 b1 b2) ?_
 intro s0 rcl ih
 show ZM _ _ (lpW _ _ _ _ _ _ _)
 unfold ZaC
 rw[Zao]
 conv=>arg 3; whnf
 refine Ze rfl ?_ ?_
 ·conv=>arg 3; whnf
  refine Zl rfl rfl fun x1 hx1=>?_
  conv=>arg 3; whnf
  refine Zp _ ZmE rfl fun x2 hx2=>?_
  conv=>arg 3; whnf
  refine Ze rfl ?_ ?_
  ·conv=>arg 3; whnf
   exact Zc rfl
  ·conv=>arg 3; whnf
   exact Zf (ih _)
 ·conv=>arg 3; whnf
  exact Zc rfl
theorem Zdz {t0:Bool} {a:(List Zi)} {b0:Int} {b1:Int} {b2:Int}:∀r,(Zbf a (fun z0=>Zc3 z0 b1 b2))=some r→evD ctx 119 [(.d (D.list t0 (List.map Zq a))),(.d (D.fn 82 [(D.rptr [(Zb b0),(Zb b1),(Zb b2)])]))]=some (ZbK r):=by
 show ZM _ (fun r rhs=>rhs=some (ZbK r)) _
 unfold Zbf
 rw[ZaV ctx 119 ZwA _ rfl rfl]
 conv=>arg 3; whnf
 refine Zn (ZD _ _) ?_
 conv=>arg 3; whnf
 refine Zd _ (Zdi _) fun r3 hr3=>?_
 clear hr3
 rcases r3 with r3 | r3
 ·conv=>arg 3; whnf
  exact Zc rfl
 ·conv=>arg 3; whnf
  exact Zc rfl
def Zbq (r:Bool):D:=(D.bool r)
theorem Zdg {t0:Bool} {a:(List Zi)} {b0:Int} {b1:Int} {b2:Int}:∀r,(ZaD a (fun z0=>Zc3 z0 b1 b2))=some r→evD ctx 83 [(.d (D.list t0 (List.map Zq a))),(.d (D.fn 82 [(D.rptr [(Zb b0),(Zb b1),(Zb b2)])]))]=some (Zbq r):=by
 show ZM _ (fun r rhs=>rhs=some (Zbq r)) _
 unfold ZaD
 rw[ZaV ctx 83 Zzf _ rfl rfl]
 conv=>arg 3; whnf
 refine Zp _ Zdz rfl fun x0 hx0=>?_
 conv=>arg 3; whnf
 refine Ze rfl ?_ ?_
 ·conv=>arg 3; whnf
  exact Zc rfl
 ·conv=>arg 3; whnf
  exact Zc rfl
def ZmB (r:Bool):D:=(D.bool r)
def ZjI (t0:Bool) (t1:Bool) (t2:Bool) (t3:Bool) (t4:Bool) (a:Zk) (b:(List Int)):(Unit⊕Unit)→Ex×List V×Zo
  | (.inl r)=>(.ret,[(.d (D.list t4 (List.map Zb b))),(.d (D.bool false))],[])
  | (.inr r)=>(.exit 0,[(.d (D.list t4 (List.map Zb b))),.bad],[])
theorem Znx {t0:Bool} {t1:Bool} {t2:Bool} {t3:Bool} {t4:Bool} {a:Zk} {b:(List Int)}:∀(s0:Int) (r:(Unit⊕Unit)),lp (Ze1 a b) s0=some r→lpW ctx 0 [1,2,7,8,9] [1,4] Zwa [(.d (D.list t4 (List.map Zb b))),(.ptr 0 0),(.d (D.list t4 (List.map Zb b))),(.d (Zb (b.length:Int))),(.d (Zb s0))] [(.cells (dV t0 t1 t2 t3 a))]=some ((ZjI t0 t1 t2 t3 t4 a b) r):=by
 refine Zam (ZjI t0 t1 t2 t3 t4 a b) ?_
 intro s0 rcl ih
 show ZM _ _ (lpW _ _ _ _ _ _ _)
 unfold Ze1
 rw[Zao]
 conv=>arg 3; whnf
 refine Ze rfl ?_ ?_
 ·conv=>arg 3; whnf
  refine Zl rfl rfl fun x1 hx1=>?_
  conv=>arg 3; whnf
  refine Zn (ZD _ _) ?_
  conv=>arg 3; whnf
  refine Zp _ ZbR rfl fun x2 hx2=>?_
  conv=>arg 3; whnf
  refine Ze rfl ?_ ?_
  ·conv=>arg 3; whnf
   refine Ze rfl ?_ ?_
   ·conv=>arg 3; whnf
    refine Zl rfl rfl fun x3 hx3=>?_
    conv=>arg 3; whnf
    refine Ze rfl ?_ ?_
    ·conv=>arg 3; whnf
     exact Zc rfl
    ·conv=>arg 3; whnf
     exact Zf (ih _)
   ·conv=>arg 3; whnf
    exact Zf (ih _)
  ·conv=>arg 3; whnf
   exact Zc rfl
 ·conv=>arg 3; whnf
  exact Zc rfl
theorem ZlH {t0:Bool} {t1:Bool} {t2:Bool} {t3:Bool} {t4:Bool} {a:Zk} {b:(List Int)}:∀r,(Zgv a b)=some r→evD ctx 85 [(.d (D.agg (dA t0 t1 t2 t3 a))),(.d (D.list t4 (List.map Zb b)))]=some (ZmB r):=by
 show ZM _ (fun r rhs=>rhs=some (ZmB r)) _
 unfold Zgv
 rw[ZaV ctx 85 Zy8 _ rfl rfl]
 conv=>arg 3; whnf
 refine Zn (ZD _ _) ?_
 conv=>arg 3; whnf
 refine Zd _ (Znx _) fun r4 hr4=>?_
 clear hr4
 rcases r4 with r4 | r4
 ·conv=>arg 3; whnf
  exact Zc rfl
 ·conv=>arg 3; whnf
  refine Zn (ZD _ _) ?_
  conv=>arg 3; whnf
  refine Ze rfl ?_ ?_
  ·conv=>arg 3; whnf
   exact Zc rfl
  ·conv=>arg 3; whnf
   exact Zc rfl
def Zfj (r:Int):D:=(Zb r)
def ZeP (t0:Bool) (a:(List Int)) (b:Int):(Int⊕Unit)→Ex×List V×Zo
  | (.inl r)=>(.ret,[(.d (Zb r))],[])
  | (.inr r)=>(.exit 0,[.bad],[])
theorem Zgs {t0:Bool} {a:(List Int)} {b:Int}:∀(s0:Int) (r:(Int⊕Unit)),lp (Zbv a b) s0=some r→lpW ctx 0 [0,1,7,8] [4] ZtR [(.d (D.list t0 (List.map Zb a))),(.d (Zb b)),(.d (Zb (a.length:Int))),(.d (Zb s0))] []=some ((ZeP t0 a b) r):=by
 refine Zam (ZeP t0 a b) ?_
 intro s0 rcl ih
 show ZM _ _ (lpW _ _ _ _ _ _ _)
 unfold Zbv
 rw[Zao]
 conv=>arg 3; whnf
 refine Ze rfl ?_ ?_
 ·conv=>arg 3; whnf
  refine Zl rfl rfl fun x1 hx1=>?_
  conv=>arg 3; whnf
  refine Ze rfl ?_ ?_
  ·conv=>arg 3; whnf
   exact Zc rfl
  ·conv=>arg 3; whnf
   exact Zf (ih _)
 ·conv=>arg 3; whnf
  exact Zc rfl
theorem Zhk {t0:Bool} {a:(List Int)} {b:Int}:∀r,(ZcX a b)=some r→evD ctx 105 [(.d (D.list t0 (List.map Zb a))),(.d (Zb b))]=some (Zfj r):=by
 show ZM _ (fun r rhs=>rhs=some (Zfj r)) _
 unfold ZcX
 rw[ZaV ctx 105 ZwV _ rfl rfl]
 conv=>arg 3; whnf
 refine Zn (ZD _ _) ?_
 conv=>arg 3; whnf
 refine Zd _ (Zgs _) fun r2 hr2=>?_
 clear hr2
 rcases r2 with r2 | r2
 ·conv=>arg 3; whnf
  exact Zc rfl
 ·conv=>arg 3; whnf
  exact Zc rfl
def ZeN (r:Bool):D:=(D.bool r)
theorem Zgw {t0:Bool} {a:(List Int)} {b:Int}:∀r,(Zbu a b)=some r→evD ctx 60 [(.d (D.list t0 (List.map Zb a))),(.d (Zb b))]=some (ZeN r):=by
 show ZM _ (fun r rhs=>rhs=some (ZeN r)) _
 unfold Zbu
 rw[ZaV ctx 60 Zy3 _ rfl rfl]
 conv=>arg 3; whnf
 refine Zp _ Zhk rfl fun x0 hx0=>?_
 conv=>arg 3; whnf
 refine Ze rfl ?_ ?_
 ·conv=>arg 3; whnf
  exact Zc rfl
 ·conv=>arg 3; whnf
  exact Zc rfl
def Zi9 (r:Bool):D:=(D.bool r)
theorem Zmz {t0:Bool} {t1:Bool} {a:Int} {b0:(List Int)} {b1:(List Int)}:∀r,(Zc5 a b1)=some r→evD ctx 84 [(.d (Zb a)),(.d (D.rptr [(D.list t0 (List.map Zb b0)),(D.list t1 (List.map Zb b1))]))]=some (Zi9 r):=by
 show ZM _ (fun r rhs=>rhs=some (Zi9 r)) _
 unfold Zc5
 rw[ZaV ctx 84 ZzO _ rfl rfl]
 conv=>arg 3; whnf
 refine Zp _ Zgw rfl fun x0 hx0=>?_
 conv=>arg 3; whnf
 refine Ze rfl ?_ ?_
 ·conv=>arg 3; whnf
  exact Zc rfl
 ·conv=>arg 3; whnf
  exact Zc rfl
def Zch (r:Int):D:=(Zb r)
def ZbX (t0:Bool) (t1:Bool) (t2:Bool) (a:(List Int)) (b0:(List Int)) (b1:(List Int)):(Int⊕Unit)→Ex×List V×Zo
  | (.inl r)=>(.ret,[(.d (Zb r))],[])
  | (.inr r)=>(.exit 0,[.bad],[])
theorem Zd8 {t0:Bool} {t1:Bool} {t2:Bool} {a:(List Int)} {b0:(List Int)} {b1:(List Int)}:∀(s0:Int) (r:(Int⊕Unit)),lp (Zaq a (fun z0=>Zc5 z0 b1)) s0=some r→lpW ctx 0 [0,1,7,8] [4] Zq7 [(.d (D.list t0 (List.map Zb a))),(.d (D.fn 84 [(D.rptr [(D.list t1 (List.map Zb b0)),(D.list t2 (List.map Zb b1))])])),(.d (Zb (a.length:Int))),(.d (Zb s0))] []=some ((ZbX t0 t1 t2 a b0 b1) r):=by
 refine Zam (ZbX t0 t1 t2 a b0 b1) ?_
 intro s0 rcl ih
 show ZM _ _ (lpW _ _ _ _ _ _ _)
 unfold Zaq
 rw[Zao]
 conv=>arg 3; whnf
 refine Ze rfl ?_ ?_
 ·conv=>arg 3; whnf
  refine Zl rfl rfl fun x1 hx1=>?_
  conv=>arg 3; whnf
  refine Zp _ Zmz rfl fun x2 hx2=>?_
  conv=>arg 3; whnf
  refine Ze rfl ?_ ?_
  ·conv=>arg 3; whnf
   exact Zc rfl
  ·conv=>arg 3; whnf
   exact Zf (ih _)
 ·conv=>arg 3; whnf
  exact Zc rfl
theorem Zez {t0:Bool} {t1:Bool} {t2:Bool} {a:(List Int)} {b0:(List Int)} {b1:(List Int)}:∀r,(ZaW a (fun z0=>Zc5 z0 b1))=some r→evD ctx 101 [(.d (D.list t0 (List.map Zb a))),(.d (D.fn 84 [(D.rptr [(D.list t1 (List.map Zb b0)),(D.list t2 (List.map Zb b1))])]))]=some (Zch r):=by
 show ZM _ (fun r rhs=>rhs=some (Zch r)) _
 unfold ZaW
 rw[ZaV ctx 101 ZtF _ rfl rfl]
 conv=>arg 3; whnf
 refine Zn (ZD _ _) ?_
 conv=>arg 3; whnf
 refine Zd _ (Zd8 _) fun r3 hr3=>?_
 clear hr3
 rcases r3 with r3 | r3
 ·conv=>arg 3; whnf
  exact Zc rfl
 ·conv=>arg 3; whnf
  exact Zc rfl
def ZbY (r:Bool):D:=(D.bool r)
theorem Zea {t0:Bool} {t1:Bool} {t2:Bool} {a:(List Int)} {b0:(List Int)} {b1:(List Int)}:∀r,(Z3 a (fun z0=>Zc5 z0 b1))=some r→evD ctx 53 [(.d (D.list t0 (List.map Zb a))),(.d (D.fn 84 [(D.rptr [(D.list t1 (List.map Zb b0)),(D.list t2 (List.map Zb b1))])]))]=some (ZbY r):=by
 show ZM _ (fun r rhs=>rhs=some (ZbY r)) _
 unfold Z3
 rw[ZaV ctx 53 ZyE _ rfl rfl]
 conv=>arg 3; whnf
 refine Zp _ Zez rfl fun x0 hx0=>?_
 conv=>arg 3; whnf
 refine Ze rfl ?_ ?_
 ·conv=>arg 3; whnf
  exact Zc rfl
 ·conv=>arg 3; whnf
  exact Zc rfl
def ZkF (r:Int):D:=(Zb r)
def Zil (t0:Bool) (t1:Bool) (t2:Bool) (t3:Bool) (a:Zk):(Unit⊕Unit)→Ex×List V×Zo
  | (.inl r)=>(.ret,[(.ptr 0 0),(.d (Zb 53))],[(.cells (dV t0 t1 t2 t3 a))])
  | (.inr r)=>(.exit 0,[(.ptr 0 0),.bad],[(.cells (dV t0 t1 t2 t3 a))])
theorem ZlT {t0:Bool} {t1:Bool} {t2:Bool} {t3:Bool} {a:Zk}:∀(s4:Int) (r:(Unit⊕Unit)),lp (Zdh a) s4=some r→lpW ctx 0 [1,61,62,63] [1,2] Zwi [(.ptr 0 0),(.d (D.list t1 (List.map Zt a.edges))),(.d (Zb (a.edges.length:Int))),(.d (Zb s4))] [(.cells (dV t0 t1 t2 t3 a))]=some ((Zil t0 t1 t2 t3 a) r):=by
 refine Zam (Zil t0 t1 t2 t3 a) ?_
 intro s4 rcl ih
 show ZM _ _ (lpW _ _ _ _ _ _ _)
 unfold Zdh
 rw[Zao]
 conv=>arg 3; whnf
 refine Ze rfl ?_ ?_
 ·conv=>arg 3; whnf
  refine Zl rfl rfl fun x5 hx5=>?_
  conv=>arg 3; whnf
  refine Zp _ ZlB rfl fun x6 hx6=>?_
  conv=>arg 3; whnf
  refine Ze rfl ?_ ?_
  ·conv=>arg 3; whnf
   refine Ze rfl ?_ ?_
   ·conv=>arg 3; whnf
    refine Ze (Zwc Zt a.edges s4.toNat) ?_ ?_
    ·conv=>arg 3; whnf
     refine Zbs rfl ?_
     conv=>arg 3; whnf
     refine Zn (Zq0 Zt a.edges s4.toNat) ?_
     conv=>arg 3; whnf
     refine Zp _ Zel rfl fun x7 hx7=>?_
     conv=>arg 3; whnf
     refine Ze rfl ?_ ?_
     ·conv=>arg 3; whnf
      exact Zc rfl
     ·conv=>arg 3; whnf
      exact Zf (ih _)
    ·exact Zac
   ·exact Zac
  ·conv=>arg 3; whnf
   exact Zc rfl
 ·conv=>arg 3; whnf
  exact Zc rfl
def Zip (t0:Bool) (t1:Bool) (t2:Bool) (t3:Bool) (a:Zk):(Unit⊕Unit)→Ex×List V×Zo
  | (.inl r)=>(.ret,[(.ptr 0 0),(.d (Zb 54))],[(.cells (dV t0 t1 t2 t3 a))])
  | (.inr r)=>(.exit 2,[(.ptr 0 0),.bad],[(.cells (dV t0 t1 t2 t3 a))])
theorem Zl5 {t0:Bool} {t1:Bool} {t2:Bool} {t3:Bool} {a:Zk}:∀(s9:Int) (r:(Unit⊕Unit)),lp (Zdl a) s9=some r→lpW ctx 0 [1,85,86,87] [1,2] Zvm [(.ptr 0 0),(.d (D.list t2 (List.map Zq a.futures))),(.d (Zb (a.futures.length:Int))),(.d (Zb s9))] [(.cells (dV t0 t1 t2 t3 a))]=some ((Zip t0 t1 t2 t3 a) r):=by
 refine Zam (Zip t0 t1 t2 t3 a) ?_
 intro s9 rcl ih
 show ZM _ _ (lpW _ _ _ _ _ _ _)
 unfold Zdl
 rw[Zao]
 conv=>arg 3; whnf
 refine Ze rfl ?_ ?_
 ·conv=>arg 3; whnf
  refine Zl rfl rfl fun x10 hx10=>?_
  conv=>arg 3; whnf
  refine Zp _ ZlB rfl fun x11 hx11=>?_
  conv=>arg 3; whnf
  refine Ze rfl ?_ ?_
  ·conv=>arg 3; whnf
   refine Zl rfl rfl fun x12 hx12=>?_
   conv=>arg 3; whnf
   refine Zp _ ZbR rfl fun x13 hx13=>?_
   conv=>arg 3; whnf
   refine Ze rfl ?_ ?_
   ·conv=>arg 3; whnf
    refine Ze rfl ?_ ?_
    ·conv=>arg 3; whnf
     refine Ze (Zwc Zq a.futures s9.toNat) ?_ ?_
     ·conv=>arg 3; whnf
      refine Zbs rfl ?_
      conv=>arg 3; whnf
      refine Zn (Zq0 Zq a.futures s9.toNat) ?_
      conv=>arg 3; whnf
      refine Zp _ Zdg rfl fun x14 hx14=>?_
      conv=>arg 3; whnf
      refine Ze rfl ?_ ?_
      ·conv=>arg 3; whnf
       exact Zc rfl
      ·conv=>arg 3; whnf
       exact Zf (ih _)
     ·exact Zac
    ·exact Zac
   ·conv=>arg 3; whnf
    exact Zc rfl
  ·conv=>arg 3; whnf
   exact Zc rfl
 ·conv=>arg 3; whnf
  exact Zc rfl
def Zim (t0:Bool) (t1:Bool) (t2:Bool) (t3:Bool) (a:Zk):(Unit⊕Unit)→Ex×List V×Zo
  | (.inl r)=>(.ret,[(.d (Zb 55))],[])
  | (.inr r)=>(.exit 4,[.bad],[])
theorem Zl3 {t0:Bool} {t1:Bool} {t2:Bool} {t3:Bool} {a:Zk}:∀(s16:Int) (r:(Unit⊕Unit)),lp (Zdj a) s16=some r→lpW ctx 0 [1,124,125,126] [2] ZwW [(.ptr 0 0),(.d (D.list t3 (List.map Zw a.barriers))),(.d (Zb (a.barriers.length:Int))),(.d (Zb s16))] [(.cells (dV t0 t1 t2 t3 a))]=some ((Zim t0 t1 t2 t3 a) r):=by
 refine Zam (Zim t0 t1 t2 t3 a) ?_
 intro s16 rcl ih
 show ZM _ _ (lpW _ _ _ _ _ _ _)
 unfold Zdj
 rw[Zao]
 conv=>arg 3; whnf
 refine Ze rfl ?_ ?_
 ·conv=>arg 3; whnf
  refine Zl rfl rfl fun x17 hx17=>?_
  conv=>arg 3; whnf
  refine Zp _ ZlH rfl fun x18 hx18=>?_
  conv=>arg 3; whnf
  refine Ze rfl ?_ ?_
  ·conv=>arg 3; whnf
   refine Zp _ ZlH rfl fun x19 hx19=>?_
   conv=>arg 3; whnf
   refine Ze rfl ?_ ?_
   ·conv=>arg 3; whnf
    refine Zp _ Zea rfl fun x20 hx20=>?_
    conv=>arg 3; whnf
    refine Ze rfl ?_ ?_
    ·conv=>arg 3; whnf
     exact Zc rfl
    ·conv=>arg 3; whnf
     exact Zf (ih _)
   ·conv=>arg 3; whnf
    exact Zc rfl
  ·conv=>arg 3; whnf
   exact Zc rfl
 ·conv=>arg 3; whnf
  exact Zc rfl
theorem ZjO {t0:Bool} {t1:Bool} {t2:Bool} {t3:Bool} {a:Zk}:∀r,(Zfs a)=some r→evD ctx 41 [(.d (D.agg (dA t0 t1 t2 t3 a)))]=some (ZkF r):=by
 show ZM _ (fun r rhs=>rhs=some (ZkF r)) _
 unfold Zfs
 rw[ZaV ctx 41 ZzA _ rfl rfl]
 conv=>arg 3; whnf
 refine Zn (ZD _ _) ?_
 conv=>arg 3; whnf
 refine Zp _ ZbR rfl fun x0 hx0=>?_
 conv=>arg 3; whnf
 refine Ze rfl ?_ ?_
 ·conv=>arg 3; whnf
  refine Zn (ZD _ _) ?_
  conv=>arg 3; whnf
  refine Ze rfl ?_ ?_
  ·conv=>arg 3; whnf
   exact Zc rfl
  ·conv=>arg 3; whnf
   refine Zn (ZD _ _) ?_
   conv=>arg 3; whnf
   refine Ze rfl ?_ ?_
   ·conv=>arg 3; whnf
    exact Zc rfl
   ·conv=>arg 3; whnf
    refine Zn (ZD _ _) ?_
    conv=>arg 3; whnf
    refine Ze rfl ?_ ?_
    ·conv=>arg 3; whnf
     exact Zc rfl
    ·conv=>arg 3; whnf
     refine Zp _ ZqG rfl fun x1 hx1=>?_
     conv=>arg 3; whnf
     refine Ze rfl ?_ ?_
     ·conv=>arg 3; whnf
      refine Ze rfl ?_ ?_
      ·conv=>arg 3; whnf
       exact Zc rfl
      ·conv=>arg 3; whnf
       refine Zp _ ZbR rfl fun x2 hx2=>?_
       conv=>arg 3; whnf
       refine Ze rfl ?_ ?_
       ·conv=>arg 3; whnf
        refine Zp _ Zeq rfl fun x3 hx3=>?_
        conv=>arg 3; whnf
        refine Ze rfl ?_ ?_
        ·conv=>arg 3; whnf
         exact Zc rfl
        ·conv=>arg 3; whnf
         refine Zn (ZD _ _) ?_
         conv=>arg 3; whnf
         refine Zd _ (ZlT _) fun r8 hr8=>?_
         clear hr8
         rcases r8 with r8 | r8
         ·conv=>arg 3; whnf
          exact Zc rfl
         ·conv=>arg 3; whnf
          refine Zn (ZD _ _) ?_
          conv=>arg 3; whnf
          refine Zd _ (Zl5 _) fun r15 hr15=>?_
          clear hr15
          rcases r15 with r15 | r15
          ·conv=>arg 3; whnf
           exact Zc rfl
          ·conv=>arg 3; whnf
           refine Zn (ZD _ _) ?_
           conv=>arg 3; whnf
           refine Zd _ (Zl3 _) fun r21 hr21=>?_
           clear hr21
           rcases r21 with r21 | r21
           ·conv=>arg 3; whnf
            exact Zc rfl
           ·conv=>arg 3; whnf
            exact Zc rfl
       ·conv=>arg 3; whnf
        exact Zc rfl
     ·conv=>arg 3; whnf
      exact Zc rfl
 ·conv=>arg 3; whnf
  exact Zc rfl
def ZhJ (r:Int):D:=(Zb r)
theorem ZF {t0:Bool} {t1:Bool} {t2:Bool} {t3:Bool} {a:Int} {b:Int} {c0:Int} {c1:Int} {c2:(List ZX)} {c3:(List Zj)} {c4:(List Zi)} {c5:(List Zr)}:∀r,(Zu a b c4)=some r→evD ctx 121 [(.d (Zb a)),(.d (Zb b)),(.d (D.rptr [(Zb c0),(Zb c1),(D.list t0 (List.map ZZ c2)),(D.list t1 (List.map Zt c3)),(D.list t2 (List.map Zq c4)),(D.list t3 (List.map Zw c5))]))]=some (ZhJ r):=by
 show ZM _ (fun r rhs=>rhs=some (ZhJ r)) _
 unfold Zu
 rw[ZaV ctx 121 Zvz _ rfl rfl]
 conv=>arg 3; whnf
 refine Zl rfl rfl fun x0 hx0=>?_
 conv=>arg 3; whnf
 refine Zl rfl rfl fun x1 hx1=>?_
 conv=>arg 3; whnf
 exact Zc rfl
def Zg8 (r:Int):D:=(Zb r)
theorem Zkd {a:Int}:∀r,(Zgf a)=some r→evD ctx 151 [(.d (D.int .u64 a))]=some (Zg8 r):=by
 show ZM _ (fun r rhs=>rhs=some (Zg8 r)) _
 unfold Zgf
 rw[ZaV ctx 151 ZwC _ rfl rfl]
 conv=>arg 3; whnf
 refine Ze rfl ?_ ?_
 ·conv=>arg 3; whnf
  refine Zan rfl ?_
  conv=>arg 3; whnf
  refine Ze rfl ?_ ?_
  ·conv=>arg 3; whnf
   refine Zan rfl ?_
   conv=>arg 3; whnf
   refine Ze rfl ?_ ?_
   ·conv=>arg 3; whnf
    refine Zan rfl ?_
    conv=>arg 3; whnf
    refine Ze rfl ?_ ?_
    ·conv=>arg 3; whnf
     refine ZgE rfl fun x0 hx0=>?_
     conv=>arg 3; whnf
     exact Zc rfl
    ·exact Zac
   ·conv=>arg 3; whnf
    refine Ze rfl ?_ ?_
    ·conv=>arg 3; whnf
     refine ZgE rfl fun x1 hx1=>?_
     conv=>arg 3; whnf
     exact Zc rfl
    ·exact Zac
  ·conv=>arg 3; whnf
   refine Ze rfl ?_ ?_
   ·conv=>arg 3; whnf
    refine Zan rfl ?_
    conv=>arg 3; whnf
    refine Ze rfl ?_ ?_
    ·conv=>arg 3; whnf
     refine ZgE rfl fun x2 hx2=>?_
     conv=>arg 3; whnf
     exact Zc rfl
    ·exact Zac
   ·conv=>arg 3; whnf
    refine Ze rfl ?_ ?_
    ·conv=>arg 3; whnf
     refine ZgE rfl fun x3 hx3=>?_
     conv=>arg 3; whnf
     exact Zc rfl
    ·exact Zac
 ·conv=>arg 3; whnf
  refine Ze rfl ?_ ?_
  ·conv=>arg 3; whnf
   refine Zan rfl ?_
   conv=>arg 3; whnf
   refine Ze rfl ?_ ?_
   ·conv=>arg 3; whnf
    refine Zan rfl ?_
    conv=>arg 3; whnf
    refine Ze rfl ?_ ?_
    ·conv=>arg 3; whnf
     refine ZgE rfl fun x4 hx4=>?_
     conv=>arg 3; whnf
     exact Zc rfl
    ·exact Zac
   ·conv=>arg 3; whnf
    refine Ze rfl ?_ ?_
    ·conv=>arg 3; whnf
     refine ZgE rfl fun x5 hx5=>?_
     conv=>arg 3; whnf
     exact Zc rfl
    ·exact Zac
  ·conv=>arg 3; whnf
   refine Ze rfl ?_ ?_
   ·conv=>arg 3; whnf
    refine Zan rfl ?_
    conv=>arg 3; whnf
    refine Ze rfl ?_ ?_
    ·conv=>arg 3; whnf
     refine ZgE rfl fun x6 hx6=>?_
     conv=>arg 3; whnf
     exact Zc rfl
    ·exact Zac
   ·conv=>arg 3; whnf
    refine Ze rfl ?_ ?_
    ·conv=>arg 3; whnf
     refine ZgE rfl fun x7 hx7=>?_
     conv=>arg 3; whnf
     exact Zc rfl
    ·exact Zac
def Zih (r:Int):D:=(Zb r)
theorem Zh0 {a:Int}:∀r,(Zeg a)=some r→evD ctx 139 [(.d (D.int .u64 a))]=some (Zih r):=by
 show ZM _ (fun r rhs=>rhs=some (Zih r)) _
 unfold Zeg
 rw[ZaV ctx 139 Zwh _ rfl rfl]
 conv=>arg 3; whnf
 refine Zp _ Zkd rfl fun x0 hx0=>?_
 conv=>arg 3; whnf
 exact Zc rfl
def ZbE (t0:Bool) (t1:Bool) (t2:Bool) (t3:Bool) (b:Int) (c:Int) (m0_0:(List Int)) (m1_0:Int) (m1_1:Int) (m1_2:(List ZX)) (m1_3:(List Zj)) (m1_4:(List Zi)) (m1_5:(List Zr)):(List Int)→V×Zo
  | r=>((.d (D.tup [])),[(.arr 1 (List.map Zb r)),(.cells [(.d (Zb m1_0)),(.d (Zb m1_1)),(.d (D.list t0 (List.map ZZ m1_2))),(.d (D.list t1 (List.map Zt m1_3))),(.d (D.list t2 (List.map Zq m1_4))),(.d (D.list t3 (List.map Zw m1_5)))])])
def Zbj (t0:Bool) (t1:Bool) (t2:Bool) (t3:Bool) (b:Int) (c:Int) (m1_0:Int) (m1_1:Int) (m1_2:(List ZX)) (m1_3:(List Zj)) (m1_4:(List Zi)) (m1_5:(List Zr)) (s0:Int×(List Int)):(List Int)→Ex×List V×Zo
  | r=>(.exit 2,[(.sl 0 1),(.d (Zb b)),(.d (Zb c)),(.fn 121 [(.ptr 1 0)]),(.d (Zb s0.1))],[(.arr 1 (List.map Zb r)),(.cells [(.d (Zb m1_0)),(.d (Zb m1_1)),(.d (D.list t0 (List.map ZZ m1_2))),(.d (D.list t1 (List.map Zt m1_3))),(.d (D.list t2 (List.map Zq m1_4))),(.d (D.list t3 (List.map Zw m1_5)))])])
theorem Zc6 {t0:Bool} {t1:Bool} {t2:Bool} {t3:Bool} {b:Int} {c:Int} {m1_0:Int} {m1_1:Int} {m1_2:(List ZX)} {m1_3:(List Zj)} {m1_4:(List Zi)} {m1_5:(List Zr)} {s0:Int×(List Int)}:∀(s1:Int×(List Int)) (r:(List Int)),lp (ZV b (fun z0 z1=>Zu z0 z1 m1_4)) s1=some r→lpW ctx 2 [0,1,2,3,8,9] [0,1,2,3,8] ZtK [(.sl 0 1),(.d (Zb b)),(.d (Zb c)),(.fn 121 [(.ptr 1 0)]),(.d (Zb s0.1)),(.d (Zb s1.1))] [(.arr 1 (List.map Zb s1.2)),(.cells [(.d (Zb m1_0)),(.d (Zb m1_1)),(.d (D.list t0 (List.map ZZ m1_2))),(.d (D.list t1 (List.map Zt m1_3))),(.d (D.list t2 (List.map Zq m1_4))),(.d (D.list t3 (List.map Zw m1_5)))])]=some ((Zbj t0 t1 t2 t3 b c m1_0 m1_1 m1_2 m1_3 m1_4 m1_5 s0) r):=by
 refine Zam (Zbj t0 t1 t2 t3 b c m1_0 m1_1 m1_2 m1_3 m1_4 m1_5 s0) ?_
 intro s1 rcl ih
 show ZM _ _ (lpW _ _ _ _ _ _ _)
 unfold ZV
 rw[Zao]
 conv=>arg 3; whnf
 refine Ze rfl ?_ ?_
 ·conv=>arg 3; whnf
  refine Zl rfl rfl fun x2 hx2=>?_
  conv=>arg 3; whnf
  refine Zg (ZA rfl hx2) ?_
  conv=>arg 3; whnf
  refine Zl rfl rfl fun x3 hx3=>?_
  conv=>arg 3; whnf
  refine Zg (ZA rfl hx3) ?_
  conv=>arg 3; whnf
  refine Zp _ ZF rfl fun x4 hx4=>?_
  conv=>arg 3; whnf
  refine Ze rfl ?_ ?_
  ·conv=>arg 3; whnf
   refine Zg (Zbb rfl hx3) ?_
   conv=>arg 3; whnf
   refine Zg (ZA rfl hx3) ?_
   conv=>arg 3; whnf
   refine Zg (Zbb rfl hx2) ?_
   conv=>arg 3; whnf
   refine Zg (ZA rfl hx2) ?_
   conv=>arg 3; whnf
   refine Zg (Zbb rfl hx2) ?_
   conv=>arg 3; whnf
   refine Zg (ZA rfl hx2) ?_
   conv=>arg 3; whnf
   refine Zn (ZaM Zb s1.2 s1.1.toNat x3) ?_
   conv=>arg 3; whnf
   refine Zl rfl rfl fun x5 hx5=>?_
   conv=>arg 3; whnf
   refine Zg (ZA rfl hx5) ?_
   conv=>arg 3; whnf
   refine Zn (ZaM Zb (List.set s1.2 s1.1.toNat x3) (w64 (s1.1-1)).toNat x2) ?_
   conv=>arg 3; whnf
   exact Zf (ih _)
  ·conv=>arg 3; whnf
   exact Zc rfl
 ·conv=>arg 3; whnf
  exact Zc rfl
def Zbl (t0:Bool) (t1:Bool) (t2:Bool) (t3:Bool) (b:Int) (c:Int) (m1_0:Int) (m1_1:Int) (m1_2:(List ZX)) (m1_3:(List Zj)) (m1_4:(List Zi)) (m1_5:(List Zr)):(List Int)→Ex×List V×Zo
  | r=>(.exit 0,[],[(.arr 1 (List.map Zb r)),(.cells [(.d (Zb m1_0)),(.d (Zb m1_1)),(.d (D.list t0 (List.map ZZ m1_2))),(.d (D.list t1 (List.map Zt m1_3))),(.d (D.list t2 (List.map Zq m1_4))),(.d (D.list t3 (List.map Zw m1_5)))])])
theorem Zc7 {t0:Bool} {t1:Bool} {t2:Bool} {t3:Bool} {b:Int} {c:Int} {m1_0:Int} {m1_1:Int} {m1_2:(List ZX)} {m1_3:(List Zj)} {m1_4:(List Zi)} {m1_5:(List Zr)}:∀(s0:Int×(List Int)) (r:(List Int)),lp (Zal b c (fun z0 z1=>Zu z0 z1 m1_4)) s0=some r→lpW ctx 2 [0,1,2,3,8] [] ZtV [(.sl 0 1),(.d (Zb b)),(.d (Zb c)),(.fn 121 [(.ptr 1 0)]),(.d (Zb s0.1))] [(.arr 1 (List.map Zb s0.2)),(.cells [(.d (Zb m1_0)),(.d (Zb m1_1)),(.d (D.list t0 (List.map ZZ m1_2))),(.d (D.list t1 (List.map Zt m1_3))),(.d (D.list t2 (List.map Zq m1_4))),(.d (D.list t3 (List.map Zw m1_5)))])]=some ((Zbl t0 t1 t2 t3 b c m1_0 m1_1 m1_2 m1_3 m1_4 m1_5) r):=by
 refine Zam (Zbl t0 t1 t2 t3 b c m1_0 m1_1 m1_2 m1_3 m1_4 m1_5) ?_
 intro s0 rcl ih
 show ZM _ _ (lpW _ _ _ _ _ _ _)
 unfold Zal
 rw[Zao]
 conv=>arg 3; whnf
 refine Ze rfl ?_ ?_
 ·conv=>arg 3; whnf
  refine Zd _ (Zc6 _) fun r6 hr6=>?_
  conv=>arg 3; whnf
  exact Zf (ih _)
 ·conv=>arg 3; whnf
  exact Zc rfl
theorem Z9 {t0:Bool} {t1:Bool} {t2:Bool} {t3:Bool} {b:Int} {c:Int} {m0_0:(List Int)} {m1_0:Int} {m1_1:Int} {m1_2:(List ZX)} {m1_3:(List Zj)} {m1_4:(List Zi)} {m1_5:(List Zr)}:∀r,(ZU b c (fun z0 z1=>Zu z0 z1 m1_4) m0_0)=some r→evW ctx 142 [(.sl 0 1),(.d (Zb b)),(.d (Zb c)),(.fn 121 [(.ptr 1 0)])] [(.arr 1 (List.map Zb m0_0)),(.cells [(.d (Zb m1_0)),(.d (Zb m1_1)),(.d (D.list t0 (List.map ZZ m1_2))),(.d (D.list t1 (List.map Zt m1_3))),(.d (D.list t2 (List.map Zq m1_4))),(.d (D.list t3 (List.map Zw m1_5)))])]=some ((ZbE t0 t1 t2 t3 b c m0_0 m1_0 m1_1 m1_2 m1_3 m1_4 m1_5) r):=by
 show ZM _ (fun r rhs=>rhs=some ((ZbE t0 t1 t2 t3 b c m0_0 m1_0 m1_1 m1_2 m1_3 m1_4 m1_5) r)) _
 unfold ZU
 rw[ZfY ctx 142 ZwE _ _ rfl rfl]
 conv=>arg 3; whnf
 refine Zd _ (Zc7 _) fun r7 hr7=>?_
 conv=>arg 3; whnf
 exact Zc rfl
def Zca (t0:Bool) (t1:Bool) (t2:Bool) (t3:Bool) (b:Int) (c:Int) (d:Int) (m0_0:(List Int)) (m1_0:Int) (m1_1:Int) (m1_2:(List ZX)) (m1_3:(List Zj)) (m1_4:(List Zi)) (m1_5:(List Zr)):(List Int)→V×Zo
  | r=>((.d (D.tup [])),[(.arr 1 (List.map Zb r)),(.cells [(.d (Zb m1_0)),(.d (Zb m1_1)),(.d (D.list t0 (List.map ZZ m1_2))),(.d (D.list t1 (List.map Zt m1_3))),(.d (D.list t2 (List.map Zq m1_4))),(.d (D.list t3 (List.map Zw m1_5)))])])
def ZbP (t0:Bool) (t1:Bool) (t2:Bool) (t3:Bool) (c:Int) (d:Int) (m1_0:Int) (m1_1:Int) (m1_2:(List ZX)) (m1_3:(List Zj)) (m1_4:(List Zi)) (m1_5:(List Zr)):((List Int)⊕(List Int))→Ex×List V×Zo
  | (.inl r)=>(.exit 0,[],[(.arr 1 (List.map Zb r)),(.cells [(.d (Zb m1_0)),(.d (Zb m1_1)),(.d (D.list t0 (List.map ZZ m1_2))),(.d (D.list t1 (List.map Zt m1_3))),(.d (D.list t2 (List.map Zq m1_4))),(.d (D.list t3 (List.map Zw m1_5)))])])
  | (.inr r)=>(.ret,[],[(.arr 1 (List.map Zb r)),(.cells [(.d (Zb m1_0)),(.d (Zb m1_1)),(.d (D.list t0 (List.map ZZ m1_2))),(.d (D.list t1 (List.map Zt m1_3))),(.d (D.list t2 (List.map Zq m1_4))),(.d (D.list t3 (List.map Zw m1_5)))])])
theorem ZdU {t0:Bool} {t1:Bool} {t2:Bool} {t3:Bool} {c:Int} {d:Int} {m1_0:Int} {m1_1:Int} {m1_2:(List ZX)} {m1_3:(List Zj)} {m1_4:(List Zi)} {m1_5:(List Zr)}:∀(s0:Int×(List Int)) (r:((List Int)⊕(List Int))),lp (ZK c d (fun z0 z1=>Zu z0 z1 m1_4)) s0=some r→lpW ctx 2 [0,2,3,4,10] [] Zto [(.sl 0 1),(.d (Zb c)),(.d (Zb d)),(.fn 121 [(.ptr 1 0)]),(.d (Zb s0.1))] [(.arr 1 (List.map Zb s0.2)),(.cells [(.d (Zb m1_0)),(.d (Zb m1_1)),(.d (D.list t0 (List.map ZZ m1_2))),(.d (D.list t1 (List.map Zt m1_3))),(.d (D.list t2 (List.map Zq m1_4))),(.d (D.list t3 (List.map Zw m1_5)))])]=some ((ZbP t0 t1 t2 t3 c d m1_0 m1_1 m1_2 m1_3 m1_4 m1_5) r):=by
 refine Zam (ZbP t0 t1 t2 t3 c d m1_0 m1_1 m1_2 m1_3 m1_4 m1_5) ?_
 intro s0 rcl ih
 show ZM _ _ (lpW _ _ _ _ _ _ _)
 unfold ZK
 rw[Zao]
 conv=>arg 3; whnf
 refine Ze rfl ?_ ?_
 ·conv=>arg 3; whnf
  exact Zc rfl
 ·conv=>arg 3; whnf
  refine Ze rfl ?_ ?_
  ·conv=>arg 3; whnf
   refine Zl rfl rfl fun x1 hx1=>?_
   conv=>arg 3; whnf
   refine Zg (ZA rfl hx1) ?_
   conv=>arg 3; whnf
   refine Zl rfl rfl fun x2 hx2=>?_
   conv=>arg 3; whnf
   refine Zg (ZA rfl hx2) ?_
   conv=>arg 3; whnf
   refine Zp _ ZF rfl fun x3 hx3=>?_
   conv=>arg 3; whnf
   refine Ze rfl ?_ ?_
   ·conv=>arg 3; whnf
    refine Zl rfl rfl fun x4 hx4=>?_
    conv=>arg 3; whnf
    refine Zg (ZA rfl hx4) ?_
    conv=>arg 3; whnf
    refine Zl rfl rfl fun x5 hx5=>?_
    conv=>arg 3; whnf
    refine Zg (ZA rfl hx5) ?_
    conv=>arg 3; whnf
    refine Zp _ ZF rfl fun x6 hx6=>?_
    conv=>arg 3; whnf
    refine Ze rfl ?_ ?_
    ·conv=>arg 3; whnf
     refine Zg (Zbb rfl hx5) ?_
     conv=>arg 3; whnf
     refine Zg (ZA rfl hx5) ?_
     conv=>arg 3; whnf
     refine Zg (Zbb rfl hx4) ?_
     conv=>arg 3; whnf
     refine Zg (ZA rfl hx4) ?_
     conv=>arg 3; whnf
     refine Zg (Zbb rfl hx4) ?_
     conv=>arg 3; whnf
     refine Zg (ZA rfl hx4) ?_
     conv=>arg 3; whnf
     refine Zn (ZaM Zb s0.2 (w64 (d+s0.1)).toNat x5) ?_
     conv=>arg 3; whnf
     refine Zl rfl rfl fun x7 hx7=>?_
     conv=>arg 3; whnf
     refine Zg (ZA rfl hx7) ?_
     conv=>arg 3; whnf
     refine Zn (ZaM Zb (List.set s0.2 (w64 (d+s0.1)).toNat x5) (w64 (d+(w64 ((w64 ((w64 (2*s0.1))+1))+1)))).toNat x4) ?_
     conv=>arg 3; whnf
     exact Zf (ih _)
    ·conv=>arg 3; whnf
     exact Zc rfl
   ·conv=>arg 3; whnf
    refine Zl rfl rfl fun x8 hx8=>?_
    conv=>arg 3; whnf
    refine Zg (ZA rfl hx8) ?_
    conv=>arg 3; whnf
    refine Zg (Zbb rfl hx1) ?_
    conv=>arg 3; whnf
    refine Zg (ZA rfl hx1) ?_
    conv=>arg 3; whnf
    refine Zp _ ZF rfl fun x9 hx9=>?_
    conv=>arg 3; whnf
    refine Ze rfl ?_ ?_
    ·conv=>arg 3; whnf
     refine Zg (Zbb rfl hx1) ?_
     conv=>arg 3; whnf
     refine Zg (ZA rfl hx1) ?_
     conv=>arg 3; whnf
     refine Zg (Zbb rfl hx8) ?_
     conv=>arg 3; whnf
     refine Zg (ZA rfl hx8) ?_
     conv=>arg 3; whnf
     refine Zg (Zbb rfl hx8) ?_
     conv=>arg 3; whnf
     refine Zg (ZA rfl hx8) ?_
     conv=>arg 3; whnf
     refine Zn (ZaM Zb s0.2 (w64 (d+s0.1)).toNat x1) ?_
     conv=>arg 3; whnf
     refine Zl rfl rfl fun x10 hx10=>?_
     conv=>arg 3; whnf
     refine Zg (ZA rfl hx10) ?_
     conv=>arg 3; whnf
     refine Zn (ZaM Zb (List.set s0.2 (w64 (d+s0.1)).toNat x1) (w64 (d+(w64 ((w64 (2*s0.1))+1)))).toNat x8) ?_
     conv=>arg 3; whnf
     exact Zf (ih _)
    ·conv=>arg 3; whnf
     exact Zc rfl
  ·conv=>arg 3; whnf
   refine Zl rfl rfl fun x11 hx11=>?_
   conv=>arg 3; whnf
   refine Zg (ZA rfl hx11) ?_
   conv=>arg 3; whnf
   refine Zl rfl rfl fun x12 hx12=>?_
   conv=>arg 3; whnf
   refine Zg (ZA rfl hx12) ?_
   conv=>arg 3; whnf
   refine Zp _ ZF rfl fun x13 hx13=>?_
   conv=>arg 3; whnf
   refine Ze rfl ?_ ?_
   ·conv=>arg 3; whnf
    refine Zg (Zbb rfl hx12) ?_
    conv=>arg 3; whnf
    refine Zg (ZA rfl hx12) ?_
    conv=>arg 3; whnf
    refine Zg (Zbb rfl hx11) ?_
    conv=>arg 3; whnf
    refine Zg (ZA rfl hx11) ?_
    conv=>arg 3; whnf
    refine Zg (Zbb rfl hx11) ?_
    conv=>arg 3; whnf
    refine Zg (ZA rfl hx11) ?_
    conv=>arg 3; whnf
    refine Zn (ZaM Zb s0.2 (w64 (d+s0.1)).toNat x12) ?_
    conv=>arg 3; whnf
    refine Zl rfl rfl fun x14 hx14=>?_
    conv=>arg 3; whnf
    refine Zg (ZA rfl hx14) ?_
    conv=>arg 3; whnf
    refine Zn (ZaM Zb (List.set s0.2 (w64 (d+s0.1)).toNat x12) (w64 (d+(w64 ((w64 (2*s0.1))+1)))).toNat x11) ?_
    conv=>arg 3; whnf
    exact Zf (ih _)
   ·conv=>arg 3; whnf
    exact Zc rfl
theorem ZbW {t0:Bool} {t1:Bool} {t2:Bool} {t3:Bool} {b:Int} {c:Int} {d:Int} {m0_0:(List Int)} {m1_0:Int} {m1_1:Int} {m1_2:(List ZX)} {m1_3:(List Zj)} {m1_4:(List Zi)} {m1_5:(List Zr)}:∀r,(ZaE b c d (fun z0 z1=>Zu z0 z1 m1_4) m0_0)=some r→evW ctx 161 [(.sl 0 1),(.d (Zb b)),(.d (Zb c)),(.d (Zb d)),(.fn 121 [(.ptr 1 0)])] [(.arr 1 (List.map Zb m0_0)),(.cells [(.d (Zb m1_0)),(.d (Zb m1_1)),(.d (D.list t0 (List.map ZZ m1_2))),(.d (D.list t1 (List.map Zt m1_3))),(.d (D.list t2 (List.map Zq m1_4))),(.d (D.list t3 (List.map Zw m1_5)))])]=some ((Zca t0 t1 t2 t3 b c d m0_0 m1_0 m1_1 m1_2 m1_3 m1_4 m1_5) r):=by
 show ZM _ (fun r rhs=>rhs=some ((Zca t0 t1 t2 t3 b c d m0_0 m1_0 m1_1 m1_2 m1_3 m1_4 m1_5) r)) _
 unfold ZaE
 rw[ZfY ctx 161 Zvw _ _ rfl rfl]
 conv=>arg 3; whnf
 refine Zd _ (ZdU _) fun r15 hr15=>?_
 clear hr15
 rcases r15 with r15 | r15
 ·conv=>arg 3; whnf
  exact Zc rfl
 ·conv=>arg 3; whnf
  exact Zc rfl
def Zb9 (t0:Bool) (t1:Bool) (t2:Bool) (t3:Bool) (b:Int) (c:Int) (m0_0:(List Int)) (m1_0:Int) (m1_1:Int) (m1_2:(List ZX)) (m1_3:(List Zj)) (m1_4:(List Zi)) (m1_5:(List Zr)):(List Int)→V×Zo
  | r=>((.d (D.tup [])),[(.arr 1 (List.map Zb r)),(.cells [(.d (Zb m1_0)),(.d (Zb m1_1)),(.d (D.list t0 (List.map ZZ m1_2))),(.d (D.list t1 (List.map Zt m1_3))),(.d (D.list t2 (List.map Zq m1_4))),(.d (D.list t3 (List.map Zw m1_5)))])])
def ZbM (t0:Bool) (t1:Bool) (t2:Bool) (t3:Bool) (b:Int) (c:Int) (m1_0:Int) (m1_1:Int) (m1_2:(List ZX)) (m1_3:(List Zj)) (m1_4:(List Zi)) (m1_5:(List Zr)):(List Int)→Ex×List V×Zo
  | r=>(.exit 0,[(.sl 0 1),(.fn 121 [(.ptr 1 0)]),(.d (Zb b)),(.d (Zb 0)),(.d (Zb (w64 (c-b))))],[(.arr 1 (List.map Zb r)),(.cells [(.d (Zb m1_0)),(.d (Zb m1_1)),(.d (D.list t0 (List.map ZZ m1_2))),(.d (D.list t1 (List.map Zt m1_3))),(.d (D.list t2 (List.map Zq m1_4))),(.d (D.list t3 (List.map Zw m1_5)))])])
theorem Zd0 {t0:Bool} {t1:Bool} {t2:Bool} {t3:Bool} {b:Int} {c:Int} {m1_0:Int} {m1_1:Int} {m1_2:(List ZX)} {m1_3:(List Zj)} {m1_4:(List Zi)} {m1_5:(List Zr)}:∀(s0:Int×(List Int)) (r:(List Int)),lp (ZaH b c (fun z0 z1=>Zu z0 z1 m1_4)) s0=some r→lpW ctx 2 [0,3,8,9,10,11] [0,3,8,9,10] Zuf [(.sl 0 1),(.fn 121 [(.ptr 1 0)]),(.d (Zb b)),(.d (Zb 0)),(.d (Zb (w64 (c-b)))),(.d (Zb s0.1))] [(.arr 1 (List.map Zb s0.2)),(.cells [(.d (Zb m1_0)),(.d (Zb m1_1)),(.d (D.list t0 (List.map ZZ m1_2))),(.d (D.list t1 (List.map Zt m1_3))),(.d (D.list t2 (List.map Zq m1_4))),(.d (D.list t3 (List.map Zw m1_5)))])]=some ((ZbM t0 t1 t2 t3 b c m1_0 m1_1 m1_2 m1_3 m1_4 m1_5) r):=by
 refine Zam (ZbM t0 t1 t2 t3 b c m1_0 m1_1 m1_2 m1_3 m1_4 m1_5) ?_
 intro s0 rcl ih
 show ZM _ _ (lpW _ _ _ _ _ _ _)
 unfold ZaH
 rw[Zao]
 conv=>arg 3; whnf
 refine Ze rfl ?_ ?_
 ·conv=>arg 3; whnf
  refine Zd _ ZbW fun x1 hx1=>?_
  conv=>arg 3; whnf
  exact Zf (ih _)
 ·conv=>arg 3; whnf
  exact Zc rfl
def ZbN (t0:Bool) (t1:Bool) (t2:Bool) (t3:Bool) (b:Int) (m1_0:Int) (m1_1:Int) (m1_2:(List ZX)) (m1_3:(List Zj)) (m1_4:(List Zi)) (m1_5:(List Zr)):(List Int)→Ex×List V×Zo
  | r=>(.exit 2,[],[(.arr 1 (List.map Zb r)),(.cells [(.d (Zb m1_0)),(.d (Zb m1_1)),(.d (D.list t0 (List.map ZZ m1_2))),(.d (D.list t1 (List.map Zt m1_3))),(.d (D.list t2 (List.map Zq m1_4))),(.d (D.list t3 (List.map Zw m1_5)))])])
theorem ZdZ {t0:Bool} {t1:Bool} {t2:Bool} {t3:Bool} {b:Int} {m1_0:Int} {m1_1:Int} {m1_2:(List ZX)} {m1_3:(List Zj)} {m1_4:(List Zi)} {m1_5:(List Zr)}:∀(s3:Int×(List Int)) (r:(List Int)),lp (ZaI b (fun z0 z1=>Zu z0 z1 m1_4)) s3=some r→lpW ctx 2 [0,3,8,9,12] [] Ztw [(.sl 0 1),(.fn 121 [(.ptr 1 0)]),(.d (Zb b)),(.d (Zb 0)),(.d (Zb s3.1))] [(.arr 1 (List.map Zb s3.2)),(.cells [(.d (Zb m1_0)),(.d (Zb m1_1)),(.d (D.list t0 (List.map ZZ m1_2))),(.d (D.list t1 (List.map Zt m1_3))),(.d (D.list t2 (List.map Zq m1_4))),(.d (D.list t3 (List.map Zw m1_5)))])]=some ((ZbN t0 t1 t2 t3 b m1_0 m1_1 m1_2 m1_3 m1_4 m1_5) r):=by
 refine Zam (ZbN t0 t1 t2 t3 b m1_0 m1_1 m1_2 m1_3 m1_4 m1_5) ?_
 intro s3 rcl ih
 show ZM _ _ (lpW _ _ _ _ _ _ _)
 unfold ZaI
 rw[Zao]
 conv=>arg 3; whnf
 refine Ze rfl ?_ ?_
 ·conv=>arg 3; whnf
  refine Zl rfl rfl fun x4 hx4=>?_
  conv=>arg 3; whnf
  refine Zg (ZA rfl hx4) ?_
  conv=>arg 3; whnf
  refine Zl rfl rfl fun x5 hx5=>?_
  conv=>arg 3; whnf
  refine Zg (ZA rfl hx5) ?_
  conv=>arg 3; whnf
  refine Zg (Zbb rfl hx5) ?_
  conv=>arg 3; whnf
  refine Zg (ZA rfl hx5) ?_
  conv=>arg 3; whnf
  refine Zn (ZaM Zb s3.2 b.toNat x4) ?_
  conv=>arg 3; whnf
  refine Zl rfl rfl fun x6 hx6=>?_
  conv=>arg 3; whnf
  refine Zg (ZA rfl hx6) ?_
  conv=>arg 3; whnf
  refine Zn (ZaM Zb (List.set s3.2 b.toNat x4) (w64 (b+s3.1)).toNat x5) ?_
  conv=>arg 3; whnf
  refine Zd _ ZbW fun x7 hx7=>?_
  conv=>arg 3; whnf
  exact Zf (ih _)
 ·conv=>arg 3; whnf
  exact Zc rfl
theorem Zat {t0:Bool} {t1:Bool} {t2:Bool} {t3:Bool} {b:Int} {c:Int} {m0_0:(List Int)} {m1_0:Int} {m1_1:Int} {m1_2:(List ZX)} {m1_3:(List Zj)} {m1_4:(List Zi)} {m1_5:(List Zr)}:∀r,(Z6 b c (fun z0 z1=>Zu z0 z1 m1_4) m0_0)=some r→evW ctx 143 [(.sl 0 1),(.d (Zb b)),(.d (Zb c)),(.fn 121 [(.ptr 1 0)])] [(.arr 1 (List.map Zb m0_0)),(.cells [(.d (Zb m1_0)),(.d (Zb m1_1)),(.d (D.list t0 (List.map ZZ m1_2))),(.d (D.list t1 (List.map Zt m1_3))),(.d (D.list t2 (List.map Zq m1_4))),(.d (D.list t3 (List.map Zw m1_5)))])]=some ((Zb9 t0 t1 t2 t3 b c m0_0 m1_0 m1_1 m1_2 m1_3 m1_4 m1_5) r):=by
 show ZM _ (fun r rhs=>rhs=some ((Zb9 t0 t1 t2 t3 b c m0_0 m1_0 m1_1 m1_2 m1_3 m1_4 m1_5) r)) _
 unfold Z6
 rw[ZfY ctx 143 ZwY _ _ rfl rfl]
 conv=>arg 3; whnf
 refine Zan rfl ?_
 conv=>arg 3; whnf
 refine Zd _ (Zd0 _) fun r2 hr2=>?_
 conv=>arg 3; whnf
 refine Zd _ (ZdZ _) fun r8 hr8=>?_
 conv=>arg 3; whnf
 exact Zc rfl
def Zcl (t0:Bool) (t1:Bool) (t2:Bool) (t3:Bool) (b:Int) (c:Int) (m0_0:(List Int)) (m1_0:Int) (m2_0:Int) (m2_1:Int) (m2_2:(List ZX)) (m2_3:(List Zj)) (m2_4:(List Zi)) (m2_5:(List Zr)):(Int×Int×Int)→V×Zo
  | r=>((.d (D.tup [(Zb r.1),(Zb r.2.1)])),[(.arr 1 (List.map Zb m0_0)),(.cells [(.d (Zb r.2.2))]),(.cells [(.d (Zb m2_0)),(.d (Zb m2_1)),(.d (D.list t0 (List.map ZZ m2_2))),(.d (D.list t1 (List.map Zt m2_3))),(.d (D.list t2 (List.map Zq m2_4))),(.d (D.list t3 (List.map Zw m2_5)))])])
theorem Za6 {t0:Bool} {t1:Bool} {t2:Bool} {t3:Bool} {b:Int} {c:Int} {m0_0:(List Int)} {m1_0:Int} {m2_0:Int} {m2_1:Int} {m2_2:(List ZX)} {m2_3:(List Zj)} {m2_4:(List Zi)} {m2_5:(List Zr)}:∀r,(ZaQ b c (fun z0 z1=>Zu z0 z1 m2_4) m0_0 m1_0)=some r→evW ctx 170 [(.sl 0 1),(.d (Zb b)),(.d (Zb c)),(.ptr 1 0),(.fn 121 [(.ptr 2 0)])] [(.arr 1 (List.map Zb m0_0)),(.cells [(.d (Zb m1_0))]),(.cells [(.d (Zb m2_0)),(.d (Zb m2_1)),(.d (D.list t0 (List.map ZZ m2_2))),(.d (D.list t1 (List.map Zt m2_3))),(.d (D.list t2 (List.map Zq m2_4))),(.d (D.list t3 (List.map Zw m2_5)))])]=some ((Zcl t0 t1 t2 t3 b c m0_0 m1_0 m2_0 m2_1 m2_2 m2_3 m2_4 m2_5) r):=by
 show ZM _ (fun r rhs=>rhs=some ((Zcl t0 t1 t2 t3 b c m0_0 m1_0 m2_0 m2_1 m2_2 m2_3 m2_4 m2_5) r)) _
 unfold ZaQ
 rw[ZfY ctx 170 ZvX _ _ rfl rfl]
 conv=>arg 3; whnf
 refine Zl rfl rfl fun x0 hx0=>?_
 conv=>arg 3; whnf
 refine Zg (ZA rfl hx0) ?_
 conv=>arg 3; whnf
 refine Zl rfl rfl fun x1 hx1=>?_
 conv=>arg 3; whnf
 refine Zg (ZA rfl hx1) ?_
 conv=>arg 3; whnf
 refine Zp _ ZF rfl fun x2 hx2=>?_
 conv=>arg 3; whnf
 refine Ze rfl ?_ ?_
 ·conv=>arg 3; whnf
  exact Zc rfl
 ·conv=>arg 3; whnf
  exact Zc rfl
def Zck (t0:Bool) (t1:Bool) (t2:Bool) (t3:Bool) (b:Int) (c:Int) (d:Int) (m0_0:(List Int)) (m1_0:Int) (m2_0:Int) (m2_1:Int) (m2_2:(List ZX)) (m2_3:(List Zj)) (m2_4:(List Zi)) (m2_5:(List Zr)):(Int×Int)→V×Zo
  | r=>((.d (Zb r.1)),[(.arr 1 (List.map Zb m0_0)),(.cells [(.d (Zb r.2))]),(.cells [(.d (Zb m2_0)),(.d (Zb m2_1)),(.d (D.list t0 (List.map ZZ m2_2))),(.d (D.list t1 (List.map Zt m2_3))),(.d (D.list t2 (List.map Zq m2_4))),(.d (D.list t3 (List.map Zw m2_5)))])])
theorem Za7 {t0:Bool} {t1:Bool} {t2:Bool} {t3:Bool} {b:Int} {c:Int} {d:Int} {m0_0:(List Int)} {m1_0:Int} {m2_0:Int} {m2_1:Int} {m2_2:(List ZX)} {m2_3:(List Zj)} {m2_4:(List Zi)} {m2_5:(List Zr)}:∀r,(ZaP b c d (fun z0 z1=>Zu z0 z1 m2_4) m0_0 m1_0)=some r→evW ctx 165 [(.sl 0 1),(.d (Zb b)),(.d (Zb c)),(.d (Zb d)),(.ptr 1 0),(.fn 121 [(.ptr 2 0)])] [(.arr 1 (List.map Zb m0_0)),(.cells [(.d (Zb m1_0))]),(.cells [(.d (Zb m2_0)),(.d (Zb m2_1)),(.d (D.list t0 (List.map ZZ m2_2))),(.d (D.list t1 (List.map Zt m2_3))),(.d (D.list t2 (List.map Zq m2_4))),(.d (D.list t3 (List.map Zw m2_5)))])]=some ((Zck t0 t1 t2 t3 b c d m0_0 m1_0 m2_0 m2_1 m2_2 m2_3 m2_4 m2_5) r):=by
 show ZM _ (fun r rhs=>rhs=some ((Zck t0 t1 t2 t3 b c d m0_0 m1_0 m2_0 m2_1 m2_2 m2_3 m2_4 m2_5) r)) _
 unfold ZaP
 rw[ZfY ctx 165 ZvD _ _ rfl rfl]
 conv=>arg 3; whnf
 refine Zd _ Za6 fun x0 hx0=>?_
 conv=>arg 3; whnf
 refine Zd _ Za6 fun x1 hx1=>?_
 conv=>arg 3; whnf
 refine Zd _ Za6 fun x2 hx2=>?_
 conv=>arg 3; whnf
 exact Zc rfl
def Zbw (t0:Bool) (t1:Bool) (t2:Bool) (t3:Bool) (b:Int) (m0_0:(List Int)) (m1_0:Int) (m2_0:Int) (m2_1:Int) (m2_2:(List ZX)) (m2_3:(List Zj)) (m2_4:(List Zi)) (m2_5:(List Zr)):(Int×Int)→V×Zo
  | r=>((.d (Zb r.1)),[(.arr 1 (List.map Zb m0_0)),(.cells [(.d (Zb r.2))]),(.cells [(.d (Zb m2_0)),(.d (Zb m2_1)),(.d (D.list t0 (List.map ZZ m2_2))),(.d (D.list t1 (List.map Zt m2_3))),(.d (D.list t2 (List.map Zq m2_4))),(.d (D.list t3 (List.map Zw m2_5)))])])
theorem ZaF {t0:Bool} {t1:Bool} {t2:Bool} {t3:Bool} {b:Int} {m0_0:(List Int)} {m1_0:Int} {m2_0:Int} {m2_1:Int} {m2_2:(List ZX)} {m2_3:(List Zj)} {m2_4:(List Zi)} {m2_5:(List Zr)}:∀r,(Z7 b (fun z0 z1=>Zu z0 z1 m2_4) m0_0 m1_0)=some r→evW ctx 164 [(.sl 0 1),(.d (Zb b)),(.ptr 1 0),(.fn 121 [(.ptr 2 0)])] [(.arr 1 (List.map Zb m0_0)),(.cells [(.d (Zb m1_0))]),(.cells [(.d (Zb m2_0)),(.d (Zb m2_1)),(.d (D.list t0 (List.map ZZ m2_2))),(.d (D.list t1 (List.map Zt m2_3))),(.d (D.list t2 (List.map Zq m2_4))),(.d (D.list t3 (List.map Zw m2_5)))])]=some ((Zbw t0 t1 t2 t3 b m0_0 m1_0 m2_0 m2_1 m2_2 m2_3 m2_4 m2_5) r):=by
 show ZM _ (fun r rhs=>rhs=some ((Zbw t0 t1 t2 t3 b m0_0 m1_0 m2_0 m2_1 m2_2 m2_3 m2_4 m2_5) r)) _
 unfold Z7
 rw[ZfY ctx 164 ZxD _ _ rfl rfl]
 conv=>arg 3; whnf
 refine Zd _ Za7 fun x0 hx0=>?_
 conv=>arg 3; whnf
 exact Zc rfl
def ZbO (t0:Bool) (t1:Bool) (t2:Bool) (t3:Bool) (b:Int) (c:Int) (m0_0:(List Int)) (m1_0:Int) (m1_1:Int) (m1_2:(List ZX)) (m1_3:(List Zj)) (m1_4:(List Zi)) (m1_5:(List Zr)):(Int×Int)→V×Zo
  | r=>((.d (D.tup [(Zb r.1),(Zb r.2)])),[(.arr 1 (List.map Zb m0_0)),(.cells [(.d (Zb m1_0)),(.d (Zb m1_1)),(.d (D.list t0 (List.map ZZ m1_2))),(.d (D.list t1 (List.map Zt m1_3))),(.d (D.list t2 (List.map Zq m1_4))),(.d (D.list t3 (List.map Zw m1_5)))])])
theorem Zai {t0:Bool} {t1:Bool} {t2:Bool} {t3:Bool} {b:Int} {c:Int} {m0_0:(List Int)} {m1_0:Int} {m1_1:Int} {m1_2:(List ZX)} {m1_3:(List Zj)} {m1_4:(List Zi)} {m1_5:(List Zr)}:∀r,(ZO b c (fun z0 z1=>Zu z0 z1 m1_4) m0_0)=some r→evW ctx 145 [(.sl 0 1),(.d (Zb b)),(.d (Zb c)),(.fn 121 [(.ptr 1 0)])] [(.arr 1 (List.map Zb m0_0)),(.cells [(.d (Zb m1_0)),(.d (Zb m1_1)),(.d (D.list t0 (List.map ZZ m1_2))),(.d (D.list t1 (List.map Zt m1_3))),(.d (D.list t2 (List.map Zq m1_4))),(.d (D.list t3 (List.map Zw m1_5)))])]=some ((ZbO t0 t1 t2 t3 b c m0_0 m1_0 m1_1 m1_2 m1_3 m1_4 m1_5) r):=by
 show ZM _ (fun r rhs=>rhs=some ((ZbO t0 t1 t2 t3 b c m0_0 m1_0 m1_1 m1_2 m1_3 m1_4 m1_5) r)) _
 unfold ZO
 rw[ZfY ctx 145 ZvN _ _ rfl rfl]
 conv=>arg 3; whnf
 refine Zan rfl ?_
 conv=>arg 3; whnf
 refine Zan rfl ?_
 conv=>arg 3; whnf
 refine Zan rfl ?_
 conv=>arg 3; whnf
 refine Ze rfl ?_ ?_
 ·conv=>arg 3; whnf
  refine Ze rfl ?_ ?_
  ·conv=>arg 3; whnf
   refine Zd _ ZaF fun x0 hx0=>?_
   conv=>arg 3; whnf
   refine Zd _ ZaF fun x1 hx1=>?_
   conv=>arg 3; whnf
   refine Zd _ ZaF fun x2 hx2=>?_
   conv=>arg 3; whnf
   refine Zd _ Za7 fun x3 hx3=>?_
   conv=>arg 3; whnf
   refine Ze rfl ?_ ?_
   ·conv=>arg 3; whnf
    exact Zc rfl
   ·conv=>arg 3; whnf
    refine Ze rfl ?_ ?_
    ·conv=>arg 3; whnf
     exact Zc rfl
    ·conv=>arg 3; whnf
     exact Zc rfl
  ·conv=>arg 3; whnf
   refine Zd _ Za7 fun x4 hx4=>?_
   conv=>arg 3; whnf
   refine Ze rfl ?_ ?_
   ·conv=>arg 3; whnf
    exact Zc rfl
   ·conv=>arg 3; whnf
    refine Ze rfl ?_ ?_
    ·conv=>arg 3; whnf
     exact Zc rfl
    ·conv=>arg 3; whnf
     exact Zc rfl
 ·conv=>arg 3; whnf
  refine Zbs rfl ?_
  conv=>arg 3; whnf
  exact Zc rfl
def ZbF (t0:Bool) (t1:Bool) (t2:Bool) (t3:Bool) (b:Int) (c:Int) (m0_0:(List Int)) (m1_0:Int) (m1_1:Int) (m1_2:(List ZX)) (m1_3:(List Zj)) (m1_4:(List Zi)) (m1_5:(List Zr)):(List Int)→V×Zo
  | r=>((.d (D.tup [])),[(.arr 1 (List.map Zb r)),(.cells [(.d (Zb m1_0)),(.d (Zb m1_1)),(.d (D.list t0 (List.map ZZ m1_2))),(.d (D.list t1 (List.map Zt m1_3))),(.d (D.list t2 (List.map Zq m1_4))),(.d (D.list t3 (List.map Zw m1_5)))])])
def Zbr (t0:Bool) (t1:Bool) (t2:Bool) (t3:Bool) (m1_0:Int) (m1_1:Int) (m1_2:(List ZX)) (m1_3:(List Zj)) (m1_4:(List Zi)) (m1_5:(List Zr)):(List Int)→Ex×List V×Zo
  | r=>(.exit 0,[],[(.arr 1 (List.map Zb r)),(.cells [(.d (Zb m1_0)),(.d (Zb m1_1)),(.d (D.list t0 (List.map ZZ m1_2))),(.d (D.list t1 (List.map Zt m1_3))),(.d (D.list t2 (List.map Zq m1_4))),(.d (D.list t3 (List.map Zw m1_5)))])])
theorem Zde {t0:Bool} {t1:Bool} {t2:Bool} {t3:Bool} {m1_0:Int} {m1_1:Int} {m1_2:(List ZX)} {m1_3:(List Zj)} {m1_4:(List Zi)} {m1_5:(List Zr)}:∀(s0:Int×Int×(List Int)) (r:(List Int)),lp (Z2) s0=some r→lpW ctx 2 [0,8,9] [] Ztu [(.sl 0 1),(.d (Zb s0.1)),(.d (Zb s0.2.1))] [(.arr 1 (List.map Zb s0.2.2)),(.cells [(.d (Zb m1_0)),(.d (Zb m1_1)),(.d (D.list t0 (List.map ZZ m1_2))),(.d (D.list t1 (List.map Zt m1_3))),(.d (D.list t2 (List.map Zq m1_4))),(.d (D.list t3 (List.map Zw m1_5)))])]=some ((Zbr t0 t1 t2 t3 m1_0 m1_1 m1_2 m1_3 m1_4 m1_5) r):=by
 refine Zam (Zbr t0 t1 t2 t3 m1_0 m1_1 m1_2 m1_3 m1_4 m1_5) ?_
 intro s0 rcl ih
 show ZM _ _ (lpW _ _ _ _ _ _ _)
 unfold Z2
 rw[Zao]
 conv=>arg 3; whnf
 refine Ze rfl ?_ ?_
 ·conv=>arg 3; whnf
  refine Zl rfl rfl fun x1 hx1=>?_
  conv=>arg 3; whnf
  refine Zg (ZA rfl hx1) ?_
  conv=>arg 3; whnf
  refine Zl rfl rfl fun x2 hx2=>?_
  conv=>arg 3; whnf
  refine Zg (ZA rfl hx2) ?_
  conv=>arg 3; whnf
  refine Zg (Zbb rfl hx2) ?_
  conv=>arg 3; whnf
  refine Zg (ZA rfl hx2) ?_
  conv=>arg 3; whnf
  refine Zn (ZaM Zb s0.2.2 s0.1.toNat x1) ?_
  conv=>arg 3; whnf
  refine Zl rfl rfl fun x3 hx3=>?_
  conv=>arg 3; whnf
  refine Zg (ZA rfl hx3) ?_
  conv=>arg 3; whnf
  refine Zn (ZaM Zb (List.set s0.2.2 s0.1.toNat x1) s0.2.1.toNat x2) ?_
  conv=>arg 3; whnf
  exact Zf (ih _)
 ·conv=>arg 3; whnf
  exact Zc rfl
theorem Zah {t0:Bool} {t1:Bool} {t2:Bool} {t3:Bool} {b:Int} {c:Int} {m0_0:(List Int)} {m1_0:Int} {m1_1:Int} {m1_2:(List ZX)} {m1_3:(List Zj)} {m1_4:(List Zi)} {m1_5:(List Zr)}:∀r,(ZN b c (fun z0 z1=>Zu z0 z1 m1_4) m0_0)=some r→evW ctx 146 [(.sl 0 1),(.d (Zb b)),(.d (Zb c)),(.fn 121 [(.ptr 1 0)])] [(.arr 1 (List.map Zb m0_0)),(.cells [(.d (Zb m1_0)),(.d (Zb m1_1)),(.d (D.list t0 (List.map ZZ m1_2))),(.d (D.list t1 (List.map Zt m1_3))),(.d (D.list t2 (List.map Zq m1_4))),(.d (D.list t3 (List.map Zw m1_5)))])]=some ((ZbF t0 t1 t2 t3 b c m0_0 m1_0 m1_1 m1_2 m1_3 m1_4 m1_5) r):=by
 show ZM _ (fun r rhs=>rhs=some ((ZbF t0 t1 t2 t3 b c m0_0 m1_0 m1_1 m1_2 m1_3 m1_4 m1_5) r)) _
 unfold ZN
 rw[ZfY ctx 146 ZxF _ _ rfl rfl]
 conv=>arg 3; whnf
 refine Zd _ (Zde _) fun r4 hr4=>?_
 conv=>arg 3; whnf
 exact Zc rfl
def Zba (t0:Bool) (t1:Bool) (t2:Bool) (t3:Bool) (b:Int) (c:Int) (m0_0:(List Int)) (m1_0:Int) (m1_1:Int) (m1_2:(List ZX)) (m1_3:(List Zj)) (m1_4:(List Zi)) (m1_5:(List Zr)):((List Int)⊕(List Int))→V×Zo
  | (.inl r)=>((.d (D.bool true)),[(.arr 1 (List.map Zb r)),(.cells [(.d (Zb m1_0)),(.d (Zb m1_1)),(.d (D.list t0 (List.map ZZ m1_2))),(.d (D.list t1 (List.map Zt m1_3))),(.d (D.list t2 (List.map Zq m1_4))),(.d (D.list t3 (List.map Zw m1_5)))])])
  | (.inr r)=>((.d (D.bool false)),[(.arr 1 (List.map Zb r)),(.cells [(.d (Zb m1_0)),(.d (Zb m1_1)),(.d (D.list t0 (List.map ZZ m1_2))),(.d (D.list t1 (List.map Zt m1_3))),(.d (D.list t2 (List.map Zq m1_4))),(.d (D.list t3 (List.map Zw m1_5)))])])
def Za4 (t0:Bool) (t1:Bool) (t2:Bool) (t3:Bool) (b:Int) (c:Int) (m1_0:Int) (m1_1:Int) (m1_2:(List ZX)) (m1_3:(List Zj)) (m1_4:(List Zi)) (m1_5:(List Zr)) (s0:Int×Int×(List Int)):Int→Ex×List V×Zo
  | r=>(.exit 2,[(.sl 0 1),(.d (Zb b)),(.d (Zb c)),(.fn 121 [(.ptr 1 0)]),(.d (Zb r)),(.d (Zb s0.2.1))],[(.arr 1 (List.map Zb s0.2.2)),(.cells [(.d (Zb m1_0)),(.d (Zb m1_1)),(.d (D.list t0 (List.map ZZ m1_2))),(.d (D.list t1 (List.map Zt m1_3))),(.d (D.list t2 (List.map Zq m1_4))),(.d (D.list t3 (List.map Zw m1_5)))])])
theorem Zcq {t0:Bool} {t1:Bool} {t2:Bool} {t3:Bool} {b:Int} {c:Int} {m1_0:Int} {m1_1:Int} {m1_2:(List ZX)} {m1_3:(List Zj)} {m1_4:(List Zi)} {m1_5:(List Zr)} {s0:Int×Int×(List Int)}:∀(s1:Int) (r:Int),lp (ZL c (fun z0 z1=>Zu z0 z1 m1_4) s0) s1=some r→lpW ctx 2 [0,1,2,3,9,10] [0,1,2,3,9,10] Ztl [(.sl 0 1),(.d (Zb b)),(.d (Zb c)),(.fn 121 [(.ptr 1 0)]),(.d (Zb s1)),(.d (Zb s0.2.1))] [(.arr 1 (List.map Zb s0.2.2)),(.cells [(.d (Zb m1_0)),(.d (Zb m1_1)),(.d (D.list t0 (List.map ZZ m1_2))),(.d (D.list t1 (List.map Zt m1_3))),(.d (D.list t2 (List.map Zq m1_4))),(.d (D.list t3 (List.map Zw m1_5)))])]=some ((Za4 t0 t1 t2 t3 b c m1_0 m1_1 m1_2 m1_3 m1_4 m1_5 s0) r):=by
 refine Zam (Za4 t0 t1 t2 t3 b c m1_0 m1_1 m1_2 m1_3 m1_4 m1_5 s0) ?_
 intro s1 rcl ih
 show ZM _ _ (lpW _ _ _ _ _ _ _)
 unfold ZL
 rw[Zao]
 conv=>arg 3; whnf
 refine Ze rfl ?_ ?_
 ·conv=>arg 3; whnf
  refine Zl rfl rfl fun x2 hx2=>?_
  conv=>arg 3; whnf
  refine Zg (ZA rfl hx2) ?_
  conv=>arg 3; whnf
  refine Zl rfl rfl fun x3 hx3=>?_
  conv=>arg 3; whnf
  refine Zg (ZA rfl hx3) ?_
  conv=>arg 3; whnf
  refine Zp _ ZF rfl fun x4 hx4=>?_
  conv=>arg 3; whnf
  refine Ze rfl ?_ ?_
  ·conv=>arg 3; whnf
   exact Zc rfl
  ·conv=>arg 3; whnf
   exact Zf (ih _)
 ·conv=>arg 3; whnf
  exact Zc rfl
def Za1 (t0:Bool) (t1:Bool) (t2:Bool) (t3:Bool) (b:Int) (c:Int) (m1_0:Int) (m1_1:Int) (m1_2:(List ZX)) (m1_3:(List Zj)) (m1_4:(List Zi)) (m1_5:(List Zr)) (s0:Int×Int×(List Int)) (r5:Int):(List Int)→Ex×List V×Zo
  | r=>(.exit 4,[(.sl 0 1),(.d (Zb b)),(.d (Zb c)),(.fn 121 [(.ptr 1 0)]),(.d (Zb r5)),(.d (Zb s0.2.1))],[(.arr 1 (List.map Zb r)),(.cells [(.d (Zb m1_0)),(.d (Zb m1_1)),(.d (D.list t0 (List.map ZZ m1_2))),(.d (D.list t1 (List.map Zt m1_3))),(.d (D.list t2 (List.map Zq m1_4))),(.d (D.list t3 (List.map Zw m1_5)))])])
theorem Zcp {t0:Bool} {t1:Bool} {t2:Bool} {t3:Bool} {b:Int} {c:Int} {m1_0:Int} {m1_1:Int} {m1_2:(List ZX)} {m1_3:(List Zj)} {m1_4:(List Zi)} {m1_5:(List Zr)} {s0:Int×Int×(List Int)} {r5:Int}:∀(s9:Int×(List Int)) (r:(List Int)),lp (ZS (fun z0 z1=>Zu z0 z1 m1_4)) s9=some r→lpW ctx 2 [0,1,2,3,9,10,11] [0,1,2,3,9,10] ZtX [(.sl 0 1),(.d (Zb b)),(.d (Zb c)),(.fn 121 [(.ptr 1 0)]),(.d (Zb r5)),(.d (Zb s0.2.1)),(.d (Zb s9.1))] [(.arr 1 (List.map Zb s9.2)),(.cells [(.d (Zb m1_0)),(.d (Zb m1_1)),(.d (D.list t0 (List.map ZZ m1_2))),(.d (D.list t1 (List.map Zt m1_3))),(.d (D.list t2 (List.map Zq m1_4))),(.d (D.list t3 (List.map Zw m1_5)))])]=some ((Za1 t0 t1 t2 t3 b c m1_0 m1_1 m1_2 m1_3 m1_4 m1_5 s0 r5) r):=by
 refine Zam (Za1 t0 t1 t2 t3 b c m1_0 m1_1 m1_2 m1_3 m1_4 m1_5 s0 r5) ?_
 intro s9 rcl ih
 show ZM _ _ (lpW _ _ _ _ _ _ _)
 unfold ZS
 rw[Zao]
 conv=>arg 3; whnf
 refine Ze rfl ?_ ?_
 ·conv=>arg 3; whnf
  refine Zl rfl rfl fun x10 hx10=>?_
  conv=>arg 3; whnf
  refine Zg (ZA rfl hx10) ?_
  conv=>arg 3; whnf
  refine Zl rfl rfl fun x11 hx11=>?_
  conv=>arg 3; whnf
  refine Zg (ZA rfl hx11) ?_
  conv=>arg 3; whnf
  refine Zp _ ZF rfl fun x12 hx12=>?_
  conv=>arg 3; whnf
  refine Ze rfl ?_ ?_
  ·conv=>arg 3; whnf
   refine Zg (Zbb rfl hx11) ?_
   conv=>arg 3; whnf
   refine Zg (ZA rfl hx11) ?_
   conv=>arg 3; whnf
   refine Zg (Zbb rfl hx10) ?_
   conv=>arg 3; whnf
   refine Zg (ZA rfl hx10) ?_
   conv=>arg 3; whnf
   refine Zg (Zbb rfl hx10) ?_
   conv=>arg 3; whnf
   refine Zg (ZA rfl hx10) ?_
   conv=>arg 3; whnf
   refine Zn (ZaM Zb s9.2 s9.1.toNat x11) ?_
   conv=>arg 3; whnf
   refine Zl rfl rfl fun x13 hx13=>?_
   conv=>arg 3; whnf
   refine Zg (ZA rfl hx13) ?_
   conv=>arg 3; whnf
   refine Zn (ZaM Zb (List.set s9.2 s9.1.toNat x11) (w64 (s9.1-1)).toNat x10) ?_
   conv=>arg 3; whnf
   exact Zf (ih _)
  ·conv=>arg 3; whnf
   exact Zc rfl
 ·conv=>arg 3; whnf
  exact Zc rfl
def Za2 (t0:Bool) (t1:Bool) (t2:Bool) (t3:Bool) (b:Int) (c:Int) (m1_0:Int) (m1_1:Int) (m1_2:(List ZX)) (m1_3:(List Zj)) (m1_4:(List Zi)) (m1_5:(List Zr)) (s0:Int×Int×(List Int)) (r5:Int):(List Int)→Ex×List V×Zo
  | r=>(.exit 6,[(.sl 0 1),(.d (Zb b)),(.d (Zb c)),(.fn 121 [(.ptr 1 0)]),(.d (Zb r5)),(.d (Zb s0.2.1))],[(.arr 1 (List.map Zb r)),(.cells [(.d (Zb m1_0)),(.d (Zb m1_1)),(.d (D.list t0 (List.map ZZ m1_2))),(.d (D.list t1 (List.map Zt m1_3))),(.d (D.list t2 (List.map Zq m1_4))),(.d (D.list t3 (List.map Zw m1_5)))])])
theorem ZaZ {t0:Bool} {t1:Bool} {t2:Bool} {t3:Bool} {b:Int} {c:Int} {m1_0:Int} {m1_1:Int} {m1_2:(List ZX)} {m1_3:(List Zj)} {m1_4:(List Zi)} {m1_5:(List Zr)} {s0:Int×Int×(List Int)} {r5:Int}:∀(s15:Int×(List Int)) (r:(List Int)),lp (ZG c (fun z0 z1=>Zu z0 z1 m1_4)) s15=some r→lpW ctx 2 [0,1,2,3,9,10,12] [0,1,2,3,9,10] Zt3 [(.sl 0 1),(.d (Zb b)),(.d (Zb c)),(.fn 121 [(.ptr 1 0)]),(.d (Zb r5)),(.d (Zb s0.2.1)),(.d (Zb s15.1))] [(.arr 1 (List.map Zb s15.2)),(.cells [(.d (Zb m1_0)),(.d (Zb m1_1)),(.d (D.list t0 (List.map ZZ m1_2))),(.d (D.list t1 (List.map Zt m1_3))),(.d (D.list t2 (List.map Zq m1_4))),(.d (D.list t3 (List.map Zw m1_5)))])]=some ((Za2 t0 t1 t2 t3 b c m1_0 m1_1 m1_2 m1_3 m1_4 m1_5 s0 r5) r):=by
 refine Zam (Za2 t0 t1 t2 t3 b c m1_0 m1_1 m1_2 m1_3 m1_4 m1_5 s0 r5) ?_
 intro s15 rcl ih
 show ZM _ _ (lpW _ _ _ _ _ _ _)
 unfold ZG
 rw[Zao]
 conv=>arg 3; whnf
 refine Ze rfl ?_ ?_
 ·conv=>arg 3; whnf
  refine Zl rfl rfl fun x16 hx16=>?_
  conv=>arg 3; whnf
  refine Zg (ZA rfl hx16) ?_
  conv=>arg 3; whnf
  refine Zl rfl rfl fun x17 hx17=>?_
  conv=>arg 3; whnf
  refine Zg (ZA rfl hx17) ?_
  conv=>arg 3; whnf
  refine Zp _ ZF rfl fun x18 hx18=>?_
  conv=>arg 3; whnf
  refine Ze rfl ?_ ?_
  ·conv=>arg 3; whnf
   refine Zg (Zbb rfl hx17) ?_
   conv=>arg 3; whnf
   refine Zg (ZA rfl hx17) ?_
   conv=>arg 3; whnf
   refine Zg (Zbb rfl hx16) ?_
   conv=>arg 3; whnf
   refine Zg (ZA rfl hx16) ?_
   conv=>arg 3; whnf
   refine Zg (Zbb rfl hx16) ?_
   conv=>arg 3; whnf
   refine Zg (ZA rfl hx16) ?_
   conv=>arg 3; whnf
   refine Zn (ZaM Zb s15.2 s15.1.toNat x17) ?_
   conv=>arg 3; whnf
   refine Zl rfl rfl fun x19 hx19=>?_
   conv=>arg 3; whnf
   refine Zg (ZA rfl hx19) ?_
   conv=>arg 3; whnf
   refine Zn (ZaM Zb (List.set s15.2 s15.1.toNat x17) (w64 (s15.1-1)).toNat x16) ?_
   conv=>arg 3; whnf
   exact Zf (ih _)
  ·conv=>arg 3; whnf
   exact Zc rfl
 ·conv=>arg 3; whnf
  exact Zc rfl
def Za3 (t0:Bool) (t1:Bool) (t2:Bool) (t3:Bool) (b:Int) (c:Int) (m1_0:Int) (m1_1:Int) (m1_2:(List ZX)) (m1_3:(List Zj)) (m1_4:(List Zi)) (m1_5:(List Zr)):((List Int)⊕((List Int)⊕(List Int)))→Ex×List V×Zo
  | (.inl r)=>(.ret,[(.d (D.bool true))],[(.arr 1 (List.map Zb r)),(.cells [(.d (Zb m1_0)),(.d (Zb m1_1)),(.d (D.list t0 (List.map ZZ m1_2))),(.d (D.list t1 (List.map Zt m1_3))),(.d (D.list t2 (List.map Zq m1_4))),(.d (D.list t3 (List.map Zw m1_5)))])])
  | (.inr (.inl r))=>(.ret,[(.d (D.bool false))],[(.arr 1 (List.map Zb r)),(.cells [(.d (Zb m1_0)),(.d (Zb m1_1)),(.d (D.list t0 (List.map ZZ m1_2))),(.d (D.list t1 (List.map Zt m1_3))),(.d (D.list t2 (List.map Zq m1_4))),(.d (D.list t3 (List.map Zw m1_5)))])])
  | (.inr (.inr r))=>(.exit 0,[.bad],[(.arr 1 (List.map Zb r)),(.cells [(.d (Zb m1_0)),(.d (Zb m1_1)),(.d (D.list t0 (List.map ZZ m1_2))),(.d (D.list t1 (List.map Zt m1_3))),(.d (D.list t2 (List.map Zq m1_4))),(.d (D.list t3 (List.map Zw m1_5)))])])
theorem Zct {t0:Bool} {t1:Bool} {t2:Bool} {t3:Bool} {b:Int} {c:Int} {m1_0:Int} {m1_1:Int} {m1_2:(List ZX)} {m1_3:(List Zj)} {m1_4:(List Zi)} {m1_5:(List Zr)}:∀(s0:Int×Int×(List Int)) (r:((List Int)⊕((List Int)⊕(List Int)))),lp (ZR b c (fun z0 z1=>Zu z0 z1 m1_4)) s0=some r→lpW ctx 2 [0,1,2,3,9,10] [8] ZtY [(.sl 0 1),(.d (Zb b)),(.d (Zb c)),(.fn 121 [(.ptr 1 0)]),(.d (Zb s0.1)),(.d (Zb s0.2.1))] [(.arr 1 (List.map Zb s0.2.2)),(.cells [(.d (Zb m1_0)),(.d (Zb m1_1)),(.d (D.list t0 (List.map ZZ m1_2))),(.d (D.list t1 (List.map Zt m1_3))),(.d (D.list t2 (List.map Zq m1_4))),(.d (D.list t3 (List.map Zw m1_5)))])]=some ((Za3 t0 t1 t2 t3 b c m1_0 m1_1 m1_2 m1_3 m1_4 m1_5) r):=by
 refine Zam (Za3 t0 t1 t2 t3 b c m1_0 m1_1 m1_2 m1_3 m1_4 m1_5) ?_
 intro s0 rcl ih
 show ZM _ _ (lpW _ _ _ _ _ _ _)
 unfold ZR
 rw[Zao]
 conv=>arg 3; whnf
 refine Ze rfl ?_ ?_
 ·conv=>arg 3; whnf
  refine Zd _ (Zcq _) fun r5 hr5=>?_
  conv=>arg 3; whnf
  refine Ze rfl ?_ ?_
  ·conv=>arg 3; whnf
   exact Zc rfl
  ·conv=>arg 3; whnf
   refine Ze rfl ?_ ?_
   ·conv=>arg 3; whnf
    exact Zc rfl
   ·conv=>arg 3; whnf
    refine Zl rfl rfl fun x6 hx6=>?_
    conv=>arg 3; whnf
    refine Zg (ZA rfl hx6) ?_
    conv=>arg 3; whnf
    refine Zl rfl rfl fun x7 hx7=>?_
    conv=>arg 3; whnf
    refine Zg (ZA rfl hx7) ?_
    conv=>arg 3; whnf
    refine Zg (Zbb rfl hx7) ?_
    conv=>arg 3; whnf
    refine Zg (ZA rfl hx7) ?_
    conv=>arg 3; whnf
    refine Zn (ZaM Zb s0.2.2 r5.toNat x6) ?_
    conv=>arg 3; whnf
    refine Zl rfl rfl fun x8 hx8=>?_
    conv=>arg 3; whnf
    refine Zg (ZA rfl hx8) ?_
    conv=>arg 3; whnf
    refine Zn (ZaM Zb (List.set s0.2.2 r5.toNat x6) (w64 (r5-1)).toNat x7) ?_
    conv=>arg 3; whnf
    refine Ze rfl ?_ ?_
    ·conv=>arg 3; whnf
     refine Zd _ (Zcp _) fun r14 hr14=>?_
     conv=>arg 3; whnf
     refine Ze rfl ?_ ?_
     ·conv=>arg 3; whnf
      refine Zd _ (ZaZ _) fun r20 hr20=>?_
      conv=>arg 3; whnf
      exact Zf (ih _)
     ·conv=>arg 3; whnf
      exact Zf (ih _)
    ·conv=>arg 3; whnf
     refine Ze rfl ?_ ?_
     ·conv=>arg 3; whnf
      refine Zd _ (ZaZ _) fun r26 hr26=>?_
      conv=>arg 3; whnf
      exact Zf (ih _)
     ·conv=>arg 3; whnf
      exact Zf (ih _)
 ·conv=>arg 3; whnf
  exact Zc rfl
theorem Za8 {t0:Bool} {t1:Bool} {t2:Bool} {t3:Bool} {b:Int} {c:Int} {m0_0:(List Int)} {m1_0:Int} {m1_1:Int} {m1_2:(List ZX)} {m1_3:(List Zj)} {m1_4:(List Zi)} {m1_5:(List Zr)}:∀r,(ZP b c (fun z0 z1=>Zu z0 z1 m1_4) m0_0)=some r→evW ctx 147 [(.sl 0 1),(.d (Zb b)),(.d (Zb c)),(.fn 121 [(.ptr 1 0)])] [(.arr 1 (List.map Zb m0_0)),(.cells [(.d (Zb m1_0)),(.d (Zb m1_1)),(.d (D.list t0 (List.map ZZ m1_2))),(.d (D.list t1 (List.map Zt m1_3))),(.d (D.list t2 (List.map Zq m1_4))),(.d (D.list t3 (List.map Zw m1_5)))])]=some ((Zba t0 t1 t2 t3 b c m0_0 m1_0 m1_1 m1_2 m1_3 m1_4 m1_5) r):=by
 show ZM _ (fun r rhs=>rhs=some ((Zba t0 t1 t2 t3 b c m0_0 m1_0 m1_1 m1_2 m1_3 m1_4 m1_5) r)) _
 unfold ZP
 rw[ZfY ctx 147 Zv6 _ _ rfl rfl]
 conv=>arg 3; whnf
 refine Zd _ (Zct _) fun r27 hr27=>?_
 clear hr27
 rcases r27 with r27 | (r27 | r27)
 ·conv=>arg 3; whnf
  exact Zc rfl
 ·conv=>arg 3; whnf
  exact Zc rfl
 ·conv=>arg 3; whnf
  exact Zc rfl
def ZbZ (t0:Bool) (t1:Bool) (t2:Bool) (t3:Bool) (b:Int) (c:Int) (d:Int) (m0_0:(List Int)) (m1_0:Int) (m1_1:Int) (m1_2:(List ZX)) (m1_3:(List Zj)) (m1_4:(List Zi)) (m1_5:(List Zr)):((Int×(List Int))⊕(Int×(List Int)))→V×Zo
  | (.inl r)=>((.d (D.tup [(Zb r.1),(D.bool true)])),[(.arr 1 (List.map Zb r.2)),(.cells [(.d (Zb m1_0)),(.d (Zb m1_1)),(.d (D.list t0 (List.map ZZ m1_2))),(.d (D.list t1 (List.map Zt m1_3))),(.d (D.list t2 (List.map Zq m1_4))),(.d (D.list t3 (List.map Zw m1_5)))])])
  | (.inr r)=>((.d (D.tup [(Zb r.1),(D.bool false)])),[(.arr 1 (List.map Zb r.2)),(.cells [(.d (Zb m1_0)),(.d (Zb m1_1)),(.d (D.list t0 (List.map ZZ m1_2))),(.d (D.list t1 (List.map Zt m1_3))),(.d (D.list t2 (List.map Zq m1_4))),(.d (D.list t3 (List.map Zw m1_5)))])])
def ZbL (t0:Bool) (t1:Bool) (t2:Bool) (t3:Bool) (b:Int) (c:Int) (d:Int) (m0_0:(List Int)) (m1_0:Int) (m1_1:Int) (m1_2:(List ZX)) (m1_3:(List Zj)) (m1_4:(List Zi)) (m1_5:(List Zr)) (x0:Int) (x1:Int):Int→Ex×List V×Zo
  | r=>(.exit 0,[(.sl 0 1),(.d (Zb b)),(.fn 121 [(.ptr 1 0)]),(.d (Zb r)),(.d (Zb (w64 (c-1))))],[(.arr 1 (List.map Zb (List.set (List.set m0_0 b.toNat x0) d.toNat x1))),(.cells [(.d (Zb m1_0)),(.d (Zb m1_1)),(.d (D.list t0 (List.map ZZ m1_2))),(.d (D.list t1 (List.map Zt m1_3))),(.d (D.list t2 (List.map Zq m1_4))),(.d (D.list t3 (List.map Zw m1_5)))])])
theorem ZdL {t0:Bool} {t1:Bool} {t2:Bool} {t3:Bool} {b:Int} {c:Int} {d:Int} {m0_0:(List Int)} {m1_0:Int} {m1_1:Int} {m1_2:(List ZX)} {m1_3:(List Zj)} {m1_4:(List Zi)} {m1_5:(List Zr)} {x0:Int} {x1:Int}:∀(s3:Int) (r:Int),lp (ZaA b c d m0_0 (fun z0 z1=>Zu z0 z1 m1_4) x0 x1) s3=some r→lpW ctx 2 [0,1,4,12,13] [0,1,4,12,13] Zt9 [(.sl 0 1),(.d (Zb b)),(.fn 121 [(.ptr 1 0)]),(.d (Zb s3)),(.d (Zb (w64 (c-1))))] [(.arr 1 (List.map Zb (List.set (List.set m0_0 b.toNat x0) d.toNat x1))),(.cells [(.d (Zb m1_0)),(.d (Zb m1_1)),(.d (D.list t0 (List.map ZZ m1_2))),(.d (D.list t1 (List.map Zt m1_3))),(.d (D.list t2 (List.map Zq m1_4))),(.d (D.list t3 (List.map Zw m1_5)))])]=some ((ZbL t0 t1 t2 t3 b c d m0_0 m1_0 m1_1 m1_2 m1_3 m1_4 m1_5 x0 x1) r):=by
 refine Zam (ZbL t0 t1 t2 t3 b c d m0_0 m1_0 m1_1 m1_2 m1_3 m1_4 m1_5 x0 x1) ?_
 intro s3 rcl ih
 show ZM _ _ (lpW _ _ _ _ _ _ _)
 unfold ZaA
 rw[Zao]
 conv=>arg 3; whnf
 refine Ze rfl ?_ ?_
 ·conv=>arg 3; whnf
  refine Zl rfl rfl fun x4 hx4=>?_
  conv=>arg 3; whnf
  refine Zg (ZA rfl hx4) ?_
  conv=>arg 3; whnf
  refine Zl rfl rfl fun x5 hx5=>?_
  conv=>arg 3; whnf
  refine Zg (ZA rfl hx5) ?_
  conv=>arg 3; whnf
  refine Zp _ ZF rfl fun x6 hx6=>?_
  conv=>arg 3; whnf
  refine Ze rfl ?_ ?_
  ·conv=>arg 3; whnf
   exact Zf (ih _)
  ·conv=>arg 3; whnf
   exact Zc rfl
 ·conv=>arg 3; whnf
  exact Zc rfl
def ZbI (t0:Bool) (t1:Bool) (t2:Bool) (t3:Bool) (b:Int) (d:Int) (m0_0:(List Int)) (m1_0:Int) (m1_1:Int) (m1_2:(List ZX)) (m1_3:(List Zj)) (m1_4:(List Zi)) (m1_5:(List Zr)) (x0:Int) (x1:Int) (r7:Int):Int→Ex×List V×Zo
  | r=>(.exit 2,[(.sl 0 1),(.d (Zb b)),(.fn 121 [(.ptr 1 0)]),(.d (Zb r7)),(.d (Zb r))],[(.arr 1 (List.map Zb (List.set (List.set m0_0 b.toNat x0) d.toNat x1))),(.cells [(.d (Zb m1_0)),(.d (Zb m1_1)),(.d (D.list t0 (List.map ZZ m1_2))),(.d (D.list t1 (List.map Zt m1_3))),(.d (D.list t2 (List.map Zq m1_4))),(.d (D.list t3 (List.map Zw m1_5)))])])
theorem ZdJ {t0:Bool} {t1:Bool} {t2:Bool} {t3:Bool} {b:Int} {d:Int} {m0_0:(List Int)} {m1_0:Int} {m1_1:Int} {m1_2:(List ZX)} {m1_3:(List Zj)} {m1_4:(List Zi)} {m1_5:(List Zr)} {x0:Int} {x1:Int} {r7:Int}:∀(s8:Int) (r:Int),lp (Zaz b d m0_0 (fun z0 z1=>Zu z0 z1 m1_4) x0 x1 r7) s8=some r→lpW ctx 2 [0,1,4,12,13] [0,1,4,12,13] Ztm [(.sl 0 1),(.d (Zb b)),(.fn 121 [(.ptr 1 0)]),(.d (Zb r7)),(.d (Zb s8))] [(.arr 1 (List.map Zb (List.set (List.set m0_0 b.toNat x0) d.toNat x1))),(.cells [(.d (Zb m1_0)),(.d (Zb m1_1)),(.d (D.list t0 (List.map ZZ m1_2))),(.d (D.list t1 (List.map Zt m1_3))),(.d (D.list t2 (List.map Zq m1_4))),(.d (D.list t3 (List.map Zw m1_5)))])]=some ((ZbI t0 t1 t2 t3 b d m0_0 m1_0 m1_1 m1_2 m1_3 m1_4 m1_5 x0 x1 r7) r):=by
 refine Zam (ZbI t0 t1 t2 t3 b d m0_0 m1_0 m1_1 m1_2 m1_3 m1_4 m1_5 x0 x1 r7) ?_
 intro s8 rcl ih
 show ZM _ _ (lpW _ _ _ _ _ _ _)
 unfold Zaz
 rw[Zao]
 conv=>arg 3; whnf
 refine Ze rfl ?_ ?_
 ·conv=>arg 3; whnf
  refine Zl rfl rfl fun x9 hx9=>?_
  conv=>arg 3; whnf
  refine Zg (ZA rfl hx9) ?_
  conv=>arg 3; whnf
  refine Zl rfl rfl fun x10 hx10=>?_
  conv=>arg 3; whnf
  refine Zg (ZA rfl hx10) ?_
  conv=>arg 3; whnf
  refine Zp _ ZF rfl fun x11 hx11=>?_
  conv=>arg 3; whnf
  refine Ze rfl ?_ ?_
  ·conv=>arg 3; whnf
   exact Zc rfl
  ·conv=>arg 3; whnf
   exact Zf (ih _)
 ·conv=>arg 3; whnf
  exact Zc rfl
def ZbG (t0:Bool) (t1:Bool) (t2:Bool) (t3:Bool) (b:Int) (m1_0:Int) (m1_1:Int) (m1_2:(List ZX)) (m1_3:(List Zj)) (m1_4:(List Zi)) (m1_5:(List Zr)) (s19:Int×Int×(List Int)):Int→Ex×List V×Zo
  | r=>(.exit 6,[(.sl 0 1),(.d (Zb b)),(.fn 121 [(.ptr 1 0)]),(.d (Zb r)),(.d (Zb s19.2.1))],[(.arr 1 (List.map Zb s19.2.2)),(.cells [(.d (Zb m1_0)),(.d (Zb m1_1)),(.d (D.list t0 (List.map ZZ m1_2))),(.d (D.list t1 (List.map Zt m1_3))),(.d (D.list t2 (List.map Zq m1_4))),(.d (D.list t3 (List.map Zw m1_5)))])])
theorem ZdQ {t0:Bool} {t1:Bool} {t2:Bool} {t3:Bool} {b:Int} {m1_0:Int} {m1_1:Int} {m1_2:(List ZX)} {m1_3:(List Zj)} {m1_4:(List Zi)} {m1_5:(List Zr)} {s19:Int×Int×(List Int)}:∀(s20:Int) (r:Int),lp (ZaB b (fun z0 z1=>Zu z0 z1 m1_4) s19) s20=some r→lpW ctx 2 [0,1,4,12,13] [0,1,4,12,13] ZtE [(.sl 0 1),(.d (Zb b)),(.fn 121 [(.ptr 1 0)]),(.d (Zb s20)),(.d (Zb s19.2.1))] [(.arr 1 (List.map Zb s19.2.2)),(.cells [(.d (Zb m1_0)),(.d (Zb m1_1)),(.d (D.list t0 (List.map ZZ m1_2))),(.d (D.list t1 (List.map Zt m1_3))),(.d (D.list t2 (List.map Zq m1_4))),(.d (D.list t3 (List.map Zw m1_5)))])]=some ((ZbG t0 t1 t2 t3 b m1_0 m1_1 m1_2 m1_3 m1_4 m1_5 s19) r):=by
 refine Zam (ZbG t0 t1 t2 t3 b m1_0 m1_1 m1_2 m1_3 m1_4 m1_5 s19) ?_
 intro s20 rcl ih
 show ZM _ _ (lpW _ _ _ _ _ _ _)
 unfold ZaB
 rw[Zao]
 conv=>arg 3; whnf
 refine Ze rfl ?_ ?_
 ·conv=>arg 3; whnf
  refine Zl rfl rfl fun x21 hx21=>?_
  conv=>arg 3; whnf
  refine Zg (ZA rfl hx21) ?_
  conv=>arg 3; whnf
  refine Zl rfl rfl fun x22 hx22=>?_
  conv=>arg 3; whnf
  refine Zg (ZA rfl hx22) ?_
  conv=>arg 3; whnf
  refine Zp _ ZF rfl fun x23 hx23=>?_
  conv=>arg 3; whnf
  refine Ze rfl ?_ ?_
  ·conv=>arg 3; whnf
   exact Zf (ih _)
  ·conv=>arg 3; whnf
   exact Zc rfl
 ·conv=>arg 3; whnf
  exact Zc rfl
def ZbJ (t0:Bool) (t1:Bool) (t2:Bool) (t3:Bool) (b:Int) (m1_0:Int) (m1_1:Int) (m1_2:(List ZX)) (m1_3:(List Zj)) (m1_4:(List Zi)) (m1_5:(List Zr)) (s19:Int×Int×(List Int)) (r24:Int):Int→Ex×List V×Zo
  | r=>(.exit 8,[(.sl 0 1),(.d (Zb b)),(.fn 121 [(.ptr 1 0)]),(.d (Zb r24)),(.d (Zb r))],[(.arr 1 (List.map Zb s19.2.2)),(.cells [(.d (Zb m1_0)),(.d (Zb m1_1)),(.d (D.list t0 (List.map ZZ m1_2))),(.d (D.list t1 (List.map Zt m1_3))),(.d (D.list t2 (List.map Zq m1_4))),(.d (D.list t3 (List.map Zw m1_5)))])])
theorem ZdB {t0:Bool} {t1:Bool} {t2:Bool} {t3:Bool} {b:Int} {m1_0:Int} {m1_1:Int} {m1_2:(List ZX)} {m1_3:(List Zj)} {m1_4:(List Zi)} {m1_5:(List Zr)} {s19:Int×Int×(List Int)} {r24:Int}:∀(s25:Int) (r:Int),lp (Zax b (fun z0 z1=>Zu z0 z1 m1_4) s19 r24) s25=some r→lpW ctx 2 [0,1,4,12,13] [0,1,4,12,13] Zue [(.sl 0 1),(.d (Zb b)),(.fn 121 [(.ptr 1 0)]),(.d (Zb r24)),(.d (Zb s25))] [(.arr 1 (List.map Zb s19.2.2)),(.cells [(.d (Zb m1_0)),(.d (Zb m1_1)),(.d (D.list t0 (List.map ZZ m1_2))),(.d (D.list t1 (List.map Zt m1_3))),(.d (D.list t2 (List.map Zq m1_4))),(.d (D.list t3 (List.map Zw m1_5)))])]=some ((ZbJ t0 t1 t2 t3 b m1_0 m1_1 m1_2 m1_3 m1_4 m1_5 s19 r24) r):=by
 refine Zam (ZbJ t0 t1 t2 t3 b m1_0 m1_1 m1_2 m1_3 m1_4 m1_5 s19 r24) ?_
 intro s25 rcl ih
 show ZM _ _ (lpW _ _ _ _ _ _ _)
 unfold Zax
 rw[Zao]
 conv=>arg 3; whnf
 refine Ze rfl ?_ ?_
 ·conv=>arg 3; whnf
  refine Zl rfl rfl fun x26 hx26=>?_
  conv=>arg 3; whnf
  refine Zg (ZA rfl hx26) ?_
  conv=>arg 3; whnf
  refine Zl rfl rfl fun x27 hx27=>?_
  conv=>arg 3; whnf
  refine Zg (ZA rfl hx27) ?_
  conv=>arg 3; whnf
  refine Zp _ ZF rfl fun x28 hx28=>?_
  conv=>arg 3; whnf
  refine Ze rfl ?_ ?_
  ·conv=>arg 3; whnf
   exact Zc rfl
  ·conv=>arg 3; whnf
   exact Zf (ih _)
 ·conv=>arg 3; whnf
  exact Zc rfl
def ZbH (t0:Bool) (t1:Bool) (t2:Bool) (t3:Bool) (b:Int) (m1_0:Int) (m1_1:Int) (m1_2:(List ZX)) (m1_3:(List Zj)) (m1_4:(List Zi)) (m1_5:(List Zr)):(Int×(List Int))→Ex×List V×Zo
  | r=>(.exit 4,[(.sl 0 1),(.d (Zb b)),(.d (Zb r.1))],[(.arr 1 (List.map Zb r.2)),(.cells [(.d (Zb m1_0)),(.d (Zb m1_1)),(.d (D.list t0 (List.map ZZ m1_2))),(.d (D.list t1 (List.map Zt m1_3))),(.d (D.list t2 (List.map Zq m1_4))),(.d (D.list t3 (List.map Zw m1_5)))])])
theorem ZdP {t0:Bool} {t1:Bool} {t2:Bool} {t3:Bool} {b:Int} {m1_0:Int} {m1_1:Int} {m1_2:(List ZX)} {m1_3:(List Zj)} {m1_4:(List Zi)} {m1_5:(List Zr)}:∀(s19:Int×Int×(List Int)) (r:(Int×(List Int))),lp (Za0 b (fun z0 z1=>Zu z0 z1 m1_4)) s19=some r→lpW ctx 2 [0,1,4,12,13] [0,1,13] ZtI [(.sl 0 1),(.d (Zb b)),(.fn 121 [(.ptr 1 0)]),(.d (Zb s19.1)),(.d (Zb s19.2.1))] [(.arr 1 (List.map Zb s19.2.2)),(.cells [(.d (Zb m1_0)),(.d (Zb m1_1)),(.d (D.list t0 (List.map ZZ m1_2))),(.d (D.list t1 (List.map Zt m1_3))),(.d (D.list t2 (List.map Zq m1_4))),(.d (D.list t3 (List.map Zw m1_5)))])]=some ((ZbH t0 t1 t2 t3 b m1_0 m1_1 m1_2 m1_3 m1_4 m1_5) r):=by
 refine Zam (ZbH t0 t1 t2 t3 b m1_0 m1_1 m1_2 m1_3 m1_4 m1_5) ?_
 intro s19 rcl ih
 show ZM _ _ (lpW _ _ _ _ _ _ _)
 unfold Za0
 rw[Zao]
 conv=>arg 3; whnf
 refine Zd _ (ZdQ _) fun r24 hr24=>?_
 conv=>arg 3; whnf
 refine Zd _ (ZdB _) fun r29 hr29=>?_
 conv=>arg 3; whnf
 refine Ze rfl ?_ ?_
 ·conv=>arg 3; whnf
  exact Zc rfl
 ·conv=>arg 3; whnf
  refine Zl rfl rfl fun x30 hx30=>?_
  conv=>arg 3; whnf
  refine Zg (ZA rfl hx30) ?_
  conv=>arg 3; whnf
  refine Zl rfl rfl fun x31 hx31=>?_
  conv=>arg 3; whnf
  refine Zg (ZA rfl hx31) ?_
  conv=>arg 3; whnf
  refine Zg (Zbb rfl hx31) ?_
  conv=>arg 3; whnf
  refine Zg (ZA rfl hx31) ?_
  conv=>arg 3; whnf
  refine Zn (ZaM Zb s19.2.2 r24.toNat x30) ?_
  conv=>arg 3; whnf
  refine Zl rfl rfl fun x32 hx32=>?_
  conv=>arg 3; whnf
  refine Zg (ZA rfl hx32) ?_
  conv=>arg 3; whnf
  refine Zn (ZaM Zb (List.set s19.2.2 r24.toNat x30) r29.toNat x31) ?_
  conv=>arg 3; whnf
  exact Zf (ih _)
theorem Zm {t0:Bool} {t1:Bool} {t2:Bool} {t3:Bool} {b:Int} {c:Int} {d:Int} {m0_0:(List Int)} {m1_0:Int} {m1_1:Int} {m1_2:(List ZX)} {m1_3:(List Zj)} {m1_4:(List Zi)} {m1_5:(List Zr)}:∀r,(Zs b c d (fun z0 z1=>Zu z0 z1 m1_4) m0_0)=some r→evW ctx 149 [(.sl 0 1),(.d (Zb b)),(.d (Zb c)),(.d (Zb d)),(.fn 121 [(.ptr 1 0)])] [(.arr 1 (List.map Zb m0_0)),(.cells [(.d (Zb m1_0)),(.d (Zb m1_1)),(.d (D.list t0 (List.map ZZ m1_2))),(.d (D.list t1 (List.map Zt m1_3))),(.d (D.list t2 (List.map Zq m1_4))),(.d (D.list t3 (List.map Zw m1_5)))])]=some ((ZbZ t0 t1 t2 t3 b c d m0_0 m1_0 m1_1 m1_2 m1_3 m1_4 m1_5) r):=by
 show ZM _ (fun r rhs=>rhs=some ((ZbZ t0 t1 t2 t3 b c d m0_0 m1_0 m1_1 m1_2 m1_3 m1_4 m1_5) r)) _
 unfold Zs
 rw[ZfY ctx 149 Zxd _ _ rfl rfl]
 conv=>arg 3; whnf
 refine Zl rfl rfl fun x0 hx0=>?_
 conv=>arg 3; whnf
 refine Zg (ZA rfl hx0) ?_
 conv=>arg 3; whnf
 refine Zl rfl rfl fun x1 hx1=>?_
 conv=>arg 3; whnf
 refine Zg (ZA rfl hx1) ?_
 conv=>arg 3; whnf
 refine Zg (Zbb rfl hx1) ?_
 conv=>arg 3; whnf
 refine Zg (ZA rfl hx1) ?_
 conv=>arg 3; whnf
 refine Zn (ZaM Zb m0_0 b.toNat x0) ?_
 conv=>arg 3; whnf
 refine Zl rfl rfl fun x2 hx2=>?_
 conv=>arg 3; whnf
 refine Zg (ZA rfl hx2) ?_
 conv=>arg 3; whnf
 refine Zn (ZaM Zb (List.set m0_0 b.toNat x0) d.toNat x1) ?_
 conv=>arg 3; whnf
 refine Zd _ (ZdL _) fun r7 hr7=>?_
 conv=>arg 3; whnf
 refine Zd _ (ZdJ _) fun r12 hr12=>?_
 conv=>arg 3; whnf
 refine Ze rfl ?_ ?_
 ·conv=>arg 3; whnf
  refine Zl rfl rfl fun x13 hx13=>?_
  conv=>arg 3; whnf
  refine Zg (ZA rfl hx13) ?_
  conv=>arg 3; whnf
  refine Zl rfl rfl fun x14 hx14=>?_
  conv=>arg 3; whnf
  refine Zg (ZA rfl hx14) ?_
  conv=>arg 3; whnf
  refine Zg (Zbb rfl hx14) ?_
  conv=>arg 3; whnf
  refine Zg (ZA rfl hx14) ?_
  conv=>arg 3; whnf
  refine Zn (ZaM Zb (List.set (List.set m0_0 b.toNat x0) d.toNat x1) r12.toNat x13) ?_
  conv=>arg 3; whnf
  refine Zl rfl rfl fun x15 hx15=>?_
  conv=>arg 3; whnf
  refine Zg (ZA rfl hx15) ?_
  conv=>arg 3; whnf
  refine Zn (ZaM Zb (List.set (List.set (List.set m0_0 b.toNat x0) d.toNat x1) r12.toNat x13) b.toNat x14) ?_
  conv=>arg 3; whnf
  exact Zc rfl
 ·conv=>arg 3; whnf
  refine Zl rfl rfl fun x16 hx16=>?_
  conv=>arg 3; whnf
  refine Zg (ZA rfl hx16) ?_
  conv=>arg 3; whnf
  refine Zl rfl rfl fun x17 hx17=>?_
  conv=>arg 3; whnf
  refine Zg (ZA rfl hx17) ?_
  conv=>arg 3; whnf
  refine Zg (Zbb rfl hx17) ?_
  conv=>arg 3; whnf
  refine Zg (ZA rfl hx17) ?_
  conv=>arg 3; whnf
  refine Zn (ZaM Zb (List.set (List.set m0_0 b.toNat x0) d.toNat x1) r7.toNat x16) ?_
  conv=>arg 3; whnf
  refine Zl rfl rfl fun x18 hx18=>?_
  conv=>arg 3; whnf
  refine Zg (ZA rfl hx18) ?_
  conv=>arg 3; whnf
  refine Zn (ZaM Zb (List.set (List.set (List.set m0_0 b.toNat x0) d.toNat x1) r7.toNat x16) r12.toNat x17) ?_
  conv=>arg 3; whnf
  refine Zd _ (ZdP _) fun r33 hr33=>?_
  conv=>arg 3; whnf
  refine Zl rfl rfl fun x34 hx34=>?_
  conv=>arg 3; whnf
  refine Zg (ZA rfl hx34) ?_
  conv=>arg 3; whnf
  refine Zl rfl rfl fun x35 hx35=>?_
  conv=>arg 3; whnf
  refine Zg (ZA rfl hx35) ?_
  conv=>arg 3; whnf
  refine Zg (Zbb rfl hx35) ?_
  conv=>arg 3; whnf
  refine Zg (ZA rfl hx35) ?_
  conv=>arg 3; whnf
  refine Zn (ZaM Zb r33.2 r33.1.toNat x34) ?_
  conv=>arg 3; whnf
  refine Zl rfl rfl fun x36 hx36=>?_
  conv=>arg 3; whnf
  refine Zg (ZA rfl hx36) ?_
  conv=>arg 3; whnf
  refine Zn (ZaM Zb (List.set r33.2 r33.1.toNat x34) b.toNat x35) ?_
  conv=>arg 3; whnf
  exact Zc rfl
def Zbx (t0:Bool) (t1:Bool) (t2:Bool) (t3:Bool) (b:Int) (c:Int) (d:Int) (m0_0:(List Int)) (m1_0:Int) (m1_1:Int) (m1_2:(List ZX)) (m1_3:(List Zj)) (m1_4:(List Zi)) (m1_5:(List Zr)):(Int×(List Int))→V×Zo
  | r=>((.d (Zb r.1)),[(.arr 1 (List.map Zb r.2)),(.cells [(.d (Zb m1_0)),(.d (Zb m1_1)),(.d (D.list t0 (List.map ZZ m1_2))),(.d (D.list t1 (List.map Zt m1_3))),(.d (D.list t2 (List.map Zq m1_4))),(.d (D.list t3 (List.map Zw m1_5)))])])
def Zbh (t0:Bool) (t1:Bool) (t2:Bool) (t3:Bool) (b:Int) (m1_0:Int) (m1_1:Int) (m1_2:(List ZX)) (m1_3:(List Zj)) (m1_4:(List Zi)) (m1_5:(List Zr)) (s3:Int×Int×(List Int)):Int→Ex×List V×Zo
  | r=>(.exit 2,[(.sl 0 1),(.d (Zb b)),(.fn 121 [(.ptr 1 0)]),(.d (Zb r)),(.d (Zb s3.2.1))],[(.arr 1 (List.map Zb s3.2.2)),(.cells [(.d (Zb m1_0)),(.d (Zb m1_1)),(.d (D.list t0 (List.map ZZ m1_2))),(.d (D.list t1 (List.map Zt m1_3))),(.d (D.list t2 (List.map Zq m1_4))),(.d (D.list t3 (List.map Zw m1_5)))])])
theorem ZcZ {t0:Bool} {t1:Bool} {t2:Bool} {t3:Bool} {b:Int} {m1_0:Int} {m1_1:Int} {m1_2:(List ZX)} {m1_3:(List Zj)} {m1_4:(List Zi)} {m1_5:(List Zr)} {s3:Int×Int×(List Int)}:∀(s4:Int) (r:Int),lp (Zaf b (fun z0 z1=>Zu z0 z1 m1_4) s3) s4=some r→lpW ctx 2 [0,1,4,11,12] [0,1,4,11,12] ZtW [(.sl 0 1),(.d (Zb b)),(.fn 121 [(.ptr 1 0)]),(.d (Zb s4)),(.d (Zb s3.2.1))] [(.arr 1 (List.map Zb s3.2.2)),(.cells [(.d (Zb m1_0)),(.d (Zb m1_1)),(.d (D.list t0 (List.map ZZ m1_2))),(.d (D.list t1 (List.map Zt m1_3))),(.d (D.list t2 (List.map Zq m1_4))),(.d (D.list t3 (List.map Zw m1_5)))])]=some ((Zbh t0 t1 t2 t3 b m1_0 m1_1 m1_2 m1_3 m1_4 m1_5 s3) r):=by
 refine Zam (Zbh t0 t1 t2 t3 b m1_0 m1_1 m1_2 m1_3 m1_4 m1_5 s3) ?_
 intro s4 rcl ih
 show ZM _ _ (lpW _ _ _ _ _ _ _)
 unfold Zaf
 rw[Zao]
 conv=>arg 3; whnf
 refine Ze rfl ?_ ?_
 ·conv=>arg 3; whnf
  refine Zl rfl rfl fun x5 hx5=>?_
  conv=>arg 3; whnf
  refine Zg (ZA rfl hx5) ?_
  conv=>arg 3; whnf
  refine Zl rfl rfl fun x6 hx6=>?_
  conv=>arg 3; whnf
  refine Zg (ZA rfl hx6) ?_
  conv=>arg 3; whnf
  refine Zp _ ZF rfl fun x7 hx7=>?_
  conv=>arg 3; whnf
  refine Ze rfl ?_ ?_
  ·conv=>arg 3; whnf
   exact Zc rfl
  ·conv=>arg 3; whnf
   exact Zf (ih _)
 ·conv=>arg 3; whnf
  exact Zc rfl
def Zbi (t0:Bool) (t1:Bool) (t2:Bool) (t3:Bool) (b:Int) (m1_0:Int) (m1_1:Int) (m1_2:(List ZX)) (m1_3:(List Zj)) (m1_4:(List Zi)) (m1_5:(List Zr)) (s3:Int×Int×(List Int)) (r8:Int):Int→Ex×List V×Zo
  | r=>(.exit 4,[(.sl 0 1),(.d (Zb b)),(.fn 121 [(.ptr 1 0)]),(.d (Zb r8)),(.d (Zb r))],[(.arr 1 (List.map Zb s3.2.2)),(.cells [(.d (Zb m1_0)),(.d (Zb m1_1)),(.d (D.list t0 (List.map ZZ m1_2))),(.d (D.list t1 (List.map Zt m1_3))),(.d (D.list t2 (List.map Zq m1_4))),(.d (D.list t3 (List.map Zw m1_5)))])])
theorem Zc4 {t0:Bool} {t1:Bool} {t2:Bool} {t3:Bool} {b:Int} {m1_0:Int} {m1_1:Int} {m1_2:(List ZX)} {m1_3:(List Zj)} {m1_4:(List Zi)} {m1_5:(List Zr)} {s3:Int×Int×(List Int)} {r8:Int}:∀(s9:Int) (r:Int),lp (Zag b (fun z0 z1=>Zu z0 z1 m1_4) s3 r8) s9=some r→lpW ctx 2 [0,1,4,11,12] [0,1,4,11,12] ZtB [(.sl 0 1),(.d (Zb b)),(.fn 121 [(.ptr 1 0)]),(.d (Zb r8)),(.d (Zb s9))] [(.arr 1 (List.map Zb s3.2.2)),(.cells [(.d (Zb m1_0)),(.d (Zb m1_1)),(.d (D.list t0 (List.map ZZ m1_2))),(.d (D.list t1 (List.map Zt m1_3))),(.d (D.list t2 (List.map Zq m1_4))),(.d (D.list t3 (List.map Zw m1_5)))])]=some ((Zbi t0 t1 t2 t3 b m1_0 m1_1 m1_2 m1_3 m1_4 m1_5 s3 r8) r):=by
 refine Zam (Zbi t0 t1 t2 t3 b m1_0 m1_1 m1_2 m1_3 m1_4 m1_5 s3 r8) ?_
 intro s9 rcl ih
 show ZM _ _ (lpW _ _ _ _ _ _ _)
 unfold Zag
 rw[Zao]
 conv=>arg 3; whnf
 refine Ze rfl ?_ ?_
 ·conv=>arg 3; whnf
  refine Zl rfl rfl fun x10 hx10=>?_
  conv=>arg 3; whnf
  refine Zg (ZA rfl hx10) ?_
  conv=>arg 3; whnf
  refine Zl rfl rfl fun x11 hx11=>?_
  conv=>arg 3; whnf
  refine Zg (ZA rfl hx11) ?_
  conv=>arg 3; whnf
  refine Zp _ ZF rfl fun x12 hx12=>?_
  conv=>arg 3; whnf
  refine Ze rfl ?_ ?_
  ·conv=>arg 3; whnf
   exact Zf (ih _)
  ·conv=>arg 3; whnf
   exact Zc rfl
 ·conv=>arg 3; whnf
  exact Zc rfl
def Zbg (t0:Bool) (t1:Bool) (t2:Bool) (t3:Bool) (b:Int) (m1_0:Int) (m1_1:Int) (m1_2:(List ZX)) (m1_3:(List Zj)) (m1_4:(List Zi)) (m1_5:(List Zr)):(Int×(List Int))→Ex×List V×Zo
  | r=>(.exit 0,[(.d (Zb r.1))],[(.arr 1 (List.map Zb r.2)),(.cells [(.d (Zb m1_0)),(.d (Zb m1_1)),(.d (D.list t0 (List.map ZZ m1_2))),(.d (D.list t1 (List.map Zt m1_3))),(.d (D.list t2 (List.map Zq m1_4))),(.d (D.list t3 (List.map Zw m1_5)))])])
theorem Zc0 {t0:Bool} {t1:Bool} {t2:Bool} {t3:Bool} {b:Int} {m1_0:Int} {m1_1:Int} {m1_2:(List ZX)} {m1_3:(List Zj)} {m1_4:(List Zi)} {m1_5:(List Zr)}:∀(s3:Int×Int×(List Int)) (r:(Int×(List Int))),lp (Zay b (fun z0 z1=>Zu z0 z1 m1_4)) s3=some r→lpW ctx 2 [0,1,4,11,12] [11] Ztp [(.sl 0 1),(.d (Zb b)),(.fn 121 [(.ptr 1 0)]),(.d (Zb s3.1)),(.d (Zb s3.2.1))] [(.arr 1 (List.map Zb s3.2.2)),(.cells [(.d (Zb m1_0)),(.d (Zb m1_1)),(.d (D.list t0 (List.map ZZ m1_2))),(.d (D.list t1 (List.map Zt m1_3))),(.d (D.list t2 (List.map Zq m1_4))),(.d (D.list t3 (List.map Zw m1_5)))])]=some ((Zbg t0 t1 t2 t3 b m1_0 m1_1 m1_2 m1_3 m1_4 m1_5) r):=by
 refine Zam (Zbg t0 t1 t2 t3 b m1_0 m1_1 m1_2 m1_3 m1_4 m1_5) ?_
 intro s3 rcl ih
 show ZM _ _ (lpW _ _ _ _ _ _ _)
 unfold Zay
 rw[Zao]
 conv=>arg 3; whnf
 refine Zd _ (ZcZ _) fun r8 hr8=>?_
 conv=>arg 3; whnf
 refine Zd _ (Zc4 _) fun r13 hr13=>?_
 conv=>arg 3; whnf
 refine Ze rfl ?_ ?_
 ·conv=>arg 3; whnf
  exact Zc rfl
 ·conv=>arg 3; whnf
  refine Zl rfl rfl fun x14 hx14=>?_
  conv=>arg 3; whnf
  refine Zg (ZA rfl hx14) ?_
  conv=>arg 3; whnf
  refine Zl rfl rfl fun x15 hx15=>?_
  conv=>arg 3; whnf
  refine Zg (ZA rfl hx15) ?_
  conv=>arg 3; whnf
  refine Zg (Zbb rfl hx15) ?_
  conv=>arg 3; whnf
  refine Zg (ZA rfl hx15) ?_
  conv=>arg 3; whnf
  refine Zn (ZaM Zb s3.2.2 r8.toNat x14) ?_
  conv=>arg 3; whnf
  refine Zl rfl rfl fun x16 hx16=>?_
  conv=>arg 3; whnf
  refine Zg (ZA rfl hx16) ?_
  conv=>arg 3; whnf
  refine Zn (ZaM Zb (List.set s3.2.2 r8.toNat x14) r13.toNat x15) ?_
  conv=>arg 3; whnf
  exact Zf (ih _)
theorem Zz {t0:Bool} {t1:Bool} {t2:Bool} {t3:Bool} {b:Int} {c:Int} {d:Int} {m0_0:(List Int)} {m1_0:Int} {m1_1:Int} {m1_2:(List ZX)} {m1_3:(List Zj)} {m1_4:(List Zi)} {m1_5:(List Zr)}:∀r,(ZC b c d (fun z0 z1=>Zu z0 z1 m1_4) m0_0)=some r→evW ctx 148 [(.sl 0 1),(.d (Zb b)),(.d (Zb c)),(.d (Zb d)),(.fn 121 [(.ptr 1 0)])] [(.arr 1 (List.map Zb m0_0)),(.cells [(.d (Zb m1_0)),(.d (Zb m1_1)),(.d (D.list t0 (List.map ZZ m1_2))),(.d (D.list t1 (List.map Zt m1_3))),(.d (D.list t2 (List.map Zq m1_4))),(.d (D.list t3 (List.map Zw m1_5)))])]=some ((Zbx t0 t1 t2 t3 b c d m0_0 m1_0 m1_1 m1_2 m1_3 m1_4 m1_5) r):=by
 show ZM _ (fun r rhs=>rhs=some ((Zbx t0 t1 t2 t3 b c d m0_0 m1_0 m1_1 m1_2 m1_3 m1_4 m1_5) r)) _
 unfold ZC
 rw[ZfY ctx 148 Zxb _ _ rfl rfl]
 conv=>arg 3; whnf
 refine Zl rfl rfl fun x0 hx0=>?_
 conv=>arg 3; whnf
 refine Zg (ZA rfl hx0) ?_
 conv=>arg 3; whnf
 refine Zl rfl rfl fun x1 hx1=>?_
 conv=>arg 3; whnf
 refine Zg (ZA rfl hx1) ?_
 conv=>arg 3; whnf
 refine Zg (Zbb rfl hx1) ?_
 conv=>arg 3; whnf
 refine Zg (ZA rfl hx1) ?_
 conv=>arg 3; whnf
 refine Zn (ZaM Zb m0_0 b.toNat x0) ?_
 conv=>arg 3; whnf
 refine Zl rfl rfl fun x2 hx2=>?_
 conv=>arg 3; whnf
 refine Zg (ZA rfl hx2) ?_
 conv=>arg 3; whnf
 refine Zn (ZaM Zb (List.set m0_0 b.toNat x0) d.toNat x1) ?_
 conv=>arg 3; whnf
 refine Zd _ (Zc0 _) fun r17 hr17=>?_
 conv=>arg 3; whnf
 exact Zc rfl
def Zfw (r:Int):D:=(D.int .u64 r)
theorem Zhy {a:Int}:∀r,(Zcg a)=some r→evD ctx 162 [(.d (Zb a))]=some (Zfw r):=by
 show ZM _ (fun r rhs=>rhs=some (Zfw r)) _
 unfold Zcg
 rw[ZaV ctx 162 Zxp _ rfl rfl]
 conv=>arg 3; whnf
 refine Zp _ Zh0 rfl fun x0 hx0=>?_
 conv=>arg 3; whnf
 refine Ze rfl ?_ ?_
 ·exact Zac
 ·conv=>arg 3; whnf
  exact Zc rfl
def ZfG (m0_0:Int):Unit→V×Zo
  | r=>((.d (D.int .u64 (IntKind.u64.wrap (BitVec.ofInt IntKind.u64.bits (IntKind.u64.wrap (BitVec.ofInt IntKind.u64.bits (IntKind.u64.wrap (BitVec.ofInt IntKind.u64.bits m0_0 ^^^ BitVec.ofInt IntKind.u64.bits (IntKind.u64.wrap (m0_0*2 ^ 13))).toNat) ^^^ BitVec.ofInt IntKind.u64.bits (Int.fdiv (IntKind.u64.wrap (BitVec.ofInt IntKind.u64.bits m0_0 ^^^ BitVec.ofInt IntKind.u64.bits (IntKind.u64.wrap (m0_0*2 ^ 13))).toNat) (2 ^ 7))).toNat) ^^^ BitVec.ofInt IntKind.u64.bits (IntKind.u64.wrap ((IntKind.u64.wrap (BitVec.ofInt IntKind.u64.bits (IntKind.u64.wrap (BitVec.ofInt IntKind.u64.bits m0_0 ^^^ BitVec.ofInt IntKind.u64.bits (IntKind.u64.wrap (m0_0*2 ^ 13))).toNat) ^^^ BitVec.ofInt IntKind.u64.bits (Int.fdiv (IntKind.u64.wrap (BitVec.ofInt IntKind.u64.bits m0_0 ^^^ BitVec.ofInt IntKind.u64.bits (IntKind.u64.wrap (m0_0*2 ^ 13))).toNat) (2 ^ 7))).toNat)*2 ^ 17))).toNat))),[(.cells [(.d (D.int .u64 (IntKind.u64.wrap (BitVec.ofInt IntKind.u64.bits (IntKind.u64.wrap (BitVec.ofInt IntKind.u64.bits (IntKind.u64.wrap (BitVec.ofInt IntKind.u64.bits m0_0 ^^^ BitVec.ofInt IntKind.u64.bits (IntKind.u64.wrap (m0_0*2 ^ 13))).toNat) ^^^ BitVec.ofInt IntKind.u64.bits (Int.fdiv (IntKind.u64.wrap (BitVec.ofInt IntKind.u64.bits m0_0 ^^^ BitVec.ofInt IntKind.u64.bits (IntKind.u64.wrap (m0_0*2 ^ 13))).toNat) (2 ^ 7))).toNat) ^^^ BitVec.ofInt IntKind.u64.bits (IntKind.u64.wrap ((IntKind.u64.wrap (BitVec.ofInt IntKind.u64.bits (IntKind.u64.wrap (BitVec.ofInt IntKind.u64.bits m0_0 ^^^ BitVec.ofInt IntKind.u64.bits (IntKind.u64.wrap (m0_0*2 ^ 13))).toNat) ^^^ BitVec.ofInt IntKind.u64.bits (Int.fdiv (IntKind.u64.wrap (BitVec.ofInt IntKind.u64.bits m0_0 ^^^ BitVec.ofInt IntKind.u64.bits (IntKind.u64.wrap (m0_0*2 ^ 13))).toNat) (2 ^ 7))).toNat)*2 ^ 17))).toNat)))])])
theorem Zib {m0_0:Int}:∀r,Zdr=some r→evW ctx 163 [(.ptr 0 0)] [(.cells [(.d (D.int .u64 m0_0))])]=some ((ZfG m0_0) r):=by
 show ZM _ (fun r rhs=>rhs=some ((ZfG m0_0) r)) _
 unfold Zdr
 rw[ZfY ctx 163 Zxq _ _ rfl rfl]
 conv=>arg 3; whnf
 refine Zan rfl ?_
 conv=>arg 3; whnf
 refine Zan rfl ?_
 conv=>arg 3; whnf
 refine Zan rfl ?_
 conv=>arg 3; whnf
 exact Zc rfl
def ZbC (t0:Bool) (t1:Bool) (t2:Bool) (t3:Bool) (b:Int) (c:Int) (m0_0:(List Int)) (m1_0:Int) (m1_1:Int) (m1_2:(List ZX)) (m1_3:(List Zj)) (m1_4:(List Zi)) (m1_5:(List Zr)):(List Int)→V×Zo
  | r=>((.d (D.tup [])),[(.arr 1 (List.map Zb r)),(.cells [(.d (Zb m1_0)),(.d (Zb m1_1)),(.d (D.list t0 (List.map ZZ m1_2))),(.d (D.list t1 (List.map Zt m1_3))),(.d (D.list t2 (List.map Zq m1_4))),(.d (D.list t3 (List.map Zw m1_5)))])])
def Zbk (t0:Bool) (t1:Bool) (t2:Bool) (t3:Bool) (b:Int) (c:Int) (m1_0:Int) (m1_1:Int) (m1_2:(List ZX)) (m1_3:(List Zj)) (m1_4:(List Zi)) (m1_5:(List Zr)) (x0:Int):(List Int)→Ex×List V×Zo
  | r=>(.exit 0,[],[(.arr 1 (List.map Zb r)),(.cells [(.d (Zb m1_0)),(.d (Zb m1_1)),(.d (D.list t0 (List.map ZZ m1_2))),(.d (D.list t1 (List.map Zt m1_3))),(.d (D.list t2 (List.map Zq m1_4))),(.d (D.list t3 (List.map Zw m1_5)))])])
theorem Zc8 {t0:Bool} {t1:Bool} {t2:Bool} {t3:Bool} {b:Int} {c:Int} {m1_0:Int} {m1_1:Int} {m1_2:(List ZX)} {m1_3:(List Zj)} {m1_4:(List Zi)} {m1_5:(List Zr)} {x0:Int}:∀(s1:Int×(List Int)×Int) (r:(List Int)),lp (ZaG b c x0) s1=some r→lpW ctx 2 [0,1,8,9,10,11] [] ZtH [(.sl 0 1),(.d (Zb b)),(.d (Zb (w64 (c-b)))),(.ptr 2 0),(.d (D.int .u64 x0)),(.d (Zb s1.1))] [(.arr 1 (List.map Zb s1.2.1)),(.cells [(.d (Zb m1_0)),(.d (Zb m1_1)),(.d (D.list t0 (List.map ZZ m1_2))),(.d (D.list t1 (List.map Zt m1_3))),(.d (D.list t2 (List.map Zq m1_4))),(.d (D.list t3 (List.map Zw m1_5)))]),(.cells [(.d (D.int .u64 s1.2.2))])]=some ((Zbk t0 t1 t2 t3 b c m1_0 m1_1 m1_2 m1_3 m1_4 m1_5 x0) r):=by
 refine Zam (Zbk t0 t1 t2 t3 b c m1_0 m1_1 m1_2 m1_3 m1_4 m1_5 x0) ?_
 intro s1 rcl ih
 show ZM _ _ (lpW _ _ _ _ _ _ _)
 unfold ZaG
 rw[Zao]
 conv=>arg 3; whnf
 refine Zan rfl ?_
 conv=>arg 3; whnf
 refine Ze rfl ?_ ?_
 ·conv=>arg 3; whnf
  refine Zd _ Zib fun x2 hx2=>?_
  conv=>arg 3; whnf
  refine Ze rfl ?_ ?_
  ·conv=>arg 3; whnf
   refine Zl rfl rfl fun x3 hx3=>?_
   conv=>arg 3; whnf
   refine Zg (ZA rfl hx3) ?_
   conv=>arg 3; whnf
   refine Zl rfl rfl fun x4 hx4=>?_
   conv=>arg 3; whnf
   refine Zg (ZA rfl hx4) ?_
   conv=>arg 3; whnf
   refine Zg (Zbb rfl hx4) ?_
   conv=>arg 3; whnf
   refine Zg (ZA rfl hx4) ?_
   conv=>arg 3; whnf
   refine Zn (ZaM Zb s1.2.1 s1.1.toNat x3) ?_
   conv=>arg 3; whnf
   refine Zl rfl rfl fun x5 hx5=>?_
   conv=>arg 3; whnf
   refine Zg (ZA rfl hx5) ?_
   conv=>arg 3; whnf
   refine Zn (ZaM Zb (List.set s1.2.1 s1.1.toNat x3) (w64 (b+(w64 ((w64 (IntKind.u64.wrap (BitVec.ofInt IntKind.u64.bits (IntKind.u64.wrap (BitVec.ofInt IntKind.u64.bits (IntKind.u64.wrap (BitVec.ofInt IntKind.u64.bits (IntKind.u64.wrap (BitVec.ofInt IntKind.u64.bits s1.2.2 ^^^ BitVec.ofInt IntKind.u64.bits (IntKind.u64.wrap (s1.2.2*2 ^ 13))).toNat) ^^^ BitVec.ofInt IntKind.u64.bits (Int.fdiv (IntKind.u64.wrap (BitVec.ofInt IntKind.u64.bits s1.2.2 ^^^ BitVec.ofInt IntKind.u64.bits (IntKind.u64.wrap (s1.2.2*2 ^ 13))).toNat) (2 ^ 7))).toNat) ^^^ BitVec.ofInt IntKind.u64.bits (IntKind.u64.wrap ((IntKind.u64.wrap (BitVec.ofInt IntKind.u64.bits (IntKind.u64.wrap (BitVec.ofInt IntKind.u64.bits s1.2.2 ^^^ BitVec.ofInt IntKind.u64.bits (IntKind.u64.wrap (s1.2.2*2 ^ 13))).toNat) ^^^ BitVec.ofInt IntKind.u64.bits (Int.fdiv (IntKind.u64.wrap (BitVec.ofInt IntKind.u64.bits s1.2.2 ^^^ BitVec.ofInt IntKind.u64.bits (IntKind.u64.wrap (s1.2.2*2 ^ 13))).toNat) (2 ^ 7))).toNat)*2 ^ 17))).toNat) &&& BitVec.ofInt IntKind.u64.bits (IntKind.u64.wrap (x0-1))).toNat))-(w64 (c-b)))))).toNat x4) ?_
   conv=>arg 3; whnf
   exact Zf (ih _)
  ·conv=>arg 3; whnf
   refine Zl rfl rfl fun x6 hx6=>?_
   conv=>arg 3; whnf
   refine Zg (ZA rfl hx6) ?_
   conv=>arg 3; whnf
   refine Zl rfl rfl fun x7 hx7=>?_
   conv=>arg 3; whnf
   refine Zg (ZA rfl hx7) ?_
   conv=>arg 3; whnf
   refine Zg (Zbb rfl hx7) ?_
   conv=>arg 3; whnf
   refine Zg (ZA rfl hx7) ?_
   conv=>arg 3; whnf
   refine Zn (ZaM Zb s1.2.1 s1.1.toNat x6) ?_
   conv=>arg 3; whnf
   refine Zl rfl rfl fun x8 hx8=>?_
   conv=>arg 3; whnf
   refine Zg (ZA rfl hx8) ?_
   conv=>arg 3; whnf
   refine Zn (ZaM Zb (List.set s1.2.1 s1.1.toNat x6) (w64 (b+(w64 (IntKind.u64.wrap (BitVec.ofInt IntKind.u64.bits (IntKind.u64.wrap (BitVec.ofInt IntKind.u64.bits (IntKind.u64.wrap (BitVec.ofInt IntKind.u64.bits (IntKind.u64.wrap (BitVec.ofInt IntKind.u64.bits s1.2.2 ^^^ BitVec.ofInt IntKind.u64.bits (IntKind.u64.wrap (s1.2.2*2 ^ 13))).toNat) ^^^ BitVec.ofInt IntKind.u64.bits (Int.fdiv (IntKind.u64.wrap (BitVec.ofInt IntKind.u64.bits s1.2.2 ^^^ BitVec.ofInt IntKind.u64.bits (IntKind.u64.wrap (s1.2.2*2 ^ 13))).toNat) (2 ^ 7))).toNat) ^^^ BitVec.ofInt IntKind.u64.bits (IntKind.u64.wrap ((IntKind.u64.wrap (BitVec.ofInt IntKind.u64.bits (IntKind.u64.wrap (BitVec.ofInt IntKind.u64.bits s1.2.2 ^^^ BitVec.ofInt IntKind.u64.bits (IntKind.u64.wrap (s1.2.2*2 ^ 13))).toNat) ^^^ BitVec.ofInt IntKind.u64.bits (Int.fdiv (IntKind.u64.wrap (BitVec.ofInt IntKind.u64.bits s1.2.2 ^^^ BitVec.ofInt IntKind.u64.bits (IntKind.u64.wrap (s1.2.2*2 ^ 13))).toNat) (2 ^ 7))).toNat)*2 ^ 17))).toNat) &&& BitVec.ofInt IntKind.u64.bits (IntKind.u64.wrap (x0-1))).toNat)))).toNat x7) ?_
   conv=>arg 3; whnf
   exact Zf (ih _)
 ·conv=>arg 3; whnf
  exact Zc rfl
theorem Zby {t0:Bool} {t1:Bool} {t2:Bool} {t3:Bool} {b:Int} {c:Int} {m0_0:(List Int)} {m1_0:Int} {m1_1:Int} {m1_2:(List ZX)} {m1_3:(List Zj)} {m1_4:(List Zi)} {m1_5:(List Zr)}:∀r,(Zab b c (fun z0 z1=>Zu z0 z1 m1_4) m0_0)=some r→evW ctx 144 [(.sl 0 1),(.d (Zb b)),(.d (Zb c)),(.fn 121 [(.ptr 1 0)])] [(.arr 1 (List.map Zb m0_0)),(.cells [(.d (Zb m1_0)),(.d (Zb m1_1)),(.d (D.list t0 (List.map ZZ m1_2))),(.d (D.list t1 (List.map Zt m1_3))),(.d (D.list t2 (List.map Zq m1_4))),(.d (D.list t3 (List.map Zw m1_5)))])]=some ((ZbC t0 t1 t2 t3 b c m0_0 m1_0 m1_1 m1_2 m1_3 m1_4 m1_5) r):=by
 show ZM _ (fun r rhs=>rhs=some ((ZbC t0 t1 t2 t3 b c m0_0 m1_0 m1_1 m1_2 m1_3 m1_4 m1_5) r)) _
 unfold Zab
 rw[ZfY ctx 144 ZvF _ _ rfl rfl]
 conv=>arg 3; whnf
 refine Ze rfl ?_ ?_
 ·conv=>arg 3; whnf
  refine Zp _ Zhy rfl fun x0 hx0=>?_
  conv=>arg 3; whnf
  refine Zan rfl ?_
  conv=>arg 3; whnf
  refine Zd _ (Zc8 _) fun r9 hr9=>?_
  conv=>arg 3; whnf
  exact Zc rfl
 ·conv=>arg 3; whnf
  exact Zc rfl
def Za (t0:Bool) (t1:Bool) (t2:Bool) (t3:Bool) (b:Int) (c:Int) (d:Int) (m0_0:(List Int)) (m1_0:Int) (m1_1:Int) (m1_2:(List ZX)) (m1_3:(List Zj)) (m1_4:(List Zi)) (m1_5:(List Zr)):(List Int)→V×Zo
  | r=>((.d (D.tup [])),[(.arr 1 (List.map Zb r)),(.cells [(.d (Zb m1_0)),(.d (Zb m1_1)),(.d (D.list t0 (List.map ZZ m1_2))),(.d (D.list t1 (List.map Zt m1_3))),(.d (D.list t2 (List.map Zq m1_4))),(.d (D.list t3 (List.map Zw m1_5)))])])
def ZbU (t0:Bool) (t1:Bool) (t2:Bool) (t3:Bool) (m1_0:Int) (m1_1:Int) (m1_2:(List ZX)) (m1_3:(List Zj)) (m1_4:(List Zi)) (m1_5:(List Zr)) (rc:Int→Int→Int→(Int→Int→Option Int)→(List Int)→Option (List Int)):(List Int)→Ex×List V×Zo
  | r=>(.ret,[],[(.arr 1 (List.map Zb r)),(.cells [(.d (Zb m1_0)),(.d (Zb m1_1)),(.d (D.list t0 (List.map ZZ m1_2))),(.d (D.list t1 (List.map Zt m1_3))),(.d (D.list t2 (List.map Zq m1_4))),(.d (D.list t3 (List.map Zw m1_5)))])])
theorem Zd6 {t0:Bool} {t1:Bool} {t2:Bool} {t3:Bool} {m1_0:Int} {m1_1:Int} {m1_2:(List ZX)} {m1_3:(List Zj)} {m1_4:(List Zi)} {m1_5:(List Zr)} {rc:Int→Int→Int→(Int→Int→Option Int)→(List Int)→Option (List Int)} (hrc:∀(t0:Bool) (t1:Bool) (t2:Bool) (t3:Bool) (b:Int) (c:Int) (d:Int) (m0_0:(List Int)) (m1_0:Int) (m1_1:Int) (m1_2:(List ZX)) (m1_3:(List Zj)) (m1_4:(List Zi)) (m1_5:(List Zr)) (r:(List Int)),rc b c d (fun z0 z1=>Zu z0 z1 m1_4) m0_0=some r→evW ctx 138 [(.sl 0 1),(.d (Zb b)),(.d (Zb c)),(.d (Zb d)),(.fn 121 [(.ptr 1 0)])] [(.arr 1 (List.map Zb m0_0)),(.cells [(.d (Zb m1_0)),(.d (Zb m1_1)),(.d (D.list t0 (List.map ZZ m1_2))),(.d (D.list t1 (List.map Zt m1_3))),(.d (D.list t2 (List.map Zq m1_4))),(.d (D.list t3 (List.map Zw m1_5)))])]=some ((Za t0 t1 t2 t3 b c d m0_0 m1_0 m1_1 m1_2 m1_3 m1_4 m1_5) r)):∀(s0:Int×Int×Int×Bool×Bool×(List Int)) (r:(List Int)),lp (ZQ (fun z0 z1=>Zu z0 z1 m1_4) rc) s0=some r→lpW ctx 2 [0,1,2,3,4,10,11] [] Zug [(.sl 0 1),(.d (Zb s0.1)),(.d (Zb s0.2.1)),(.d (Zb s0.2.2.1)),(.fn 121 [(.ptr 1 0)]),(.d (D.bool s0.2.2.2.1)),(.d (D.bool s0.2.2.2.2.1))] [(.arr 1 (List.map Zb s0.2.2.2.2.2)),(.cells [(.d (Zb m1_0)),(.d (Zb m1_1)),(.d (D.list t0 (List.map ZZ m1_2))),(.d (D.list t1 (List.map Zt m1_3))),(.d (D.list t2 (List.map Zq m1_4))),(.d (D.list t3 (List.map Zw m1_5)))])]=some ((ZbU t0 t1 t2 t3 m1_0 m1_1 m1_2 m1_3 m1_4 m1_5 rc) r):=by
 refine Zam (ZbU t0 t1 t2 t3 m1_0 m1_1 m1_2 m1_3 m1_4 m1_5 rc) ?_
 intro s0 rcl ih
 show ZM _ _ (lpW _ _ _ _ _ _ _)
 unfold ZQ
 rw[Zao]
 rcases hb:s0.2.2.2.1 with _ | _
 ·refine Zs6 ?_
  rcases hb:s0.2.2.2.2.1 with _ | _
  ·refine Zs6 ?_
   conv=>arg 3; whnf
   refine Ze rfl ?_ ?_
   ·conv=>arg 3; whnf
    refine Zd _ Z9 fun x170 hx170=>?_
    conv=>arg 3; whnf
    exact Zc rfl
   ·conv=>arg 3; whnf
    refine Ze rfl ?_ ?_
    ·conv=>arg 3; whnf
     refine Zd _ Zat fun x171 hx171=>?_
     conv=>arg 3; whnf
     exact Zc rfl
    ·conv=>arg 3; whnf
     refine Zd _ Zby fun x172 hx172=>?_
     conv=>arg 3; whnf
     refine Zd _ Zai fun x173 hx173=>?_
     conv=>arg 3; whnf
     refine Ze rfl ?_ ?_
     ·conv=>arg 3; whnf
      refine Zd _ Zah fun x174 hx174=>?_
      conv=>arg 3; whnf
      refine Ze rfl ?_ ?_
      ·conv=>arg 3; whnf
       refine Zl rfl rfl fun x175 hx175=>?_
       conv=>arg 3; whnf
       refine Zg (ZA rfl hx175) ?_
       conv=>arg 3; whnf
       refine Zl rfl rfl fun x176 hx176=>?_
       conv=>arg 3; whnf
       refine Zg (ZA rfl hx176) ?_
       conv=>arg 3; whnf
       refine Zp _ ZF rfl fun x177 hx177=>?_
       conv=>arg 3; whnf
       refine Ze rfl ?_ ?_
       ·conv=>arg 3; whnf
        refine Zd _ Zm fun x178 hx178=>?_
        clear hx178
        rcases x178 with x178 | x178
        ·conv=>arg 3; whnf
         refine Zbs rfl ?_
         conv=>arg 3; whnf
         refine Zan rfl ?_
         conv=>arg 3; whnf
         refine Ze rfl ?_ ?_
         ·conv=>arg 3; whnf
          refine Ze rfl ?_ ?_
          ·conv=>arg 3; whnf
           refine Zd (Za t0 t1 t2 t3 s0.1 x178.1 (w64 (s0.2.2.1-1)) x178.2 m1_0 m1_1 m1_2 m1_3 m1_4 m1_5) (hrc t0 t1 t2 t3 s0.1 x178.1 (w64 (s0.2.2.1-1)) x178.2 m1_0 m1_1 m1_2 m1_3 m1_4 m1_5) fun x179 hx179=>?_
           conv=>arg 3; whnf
           exact Zf (ih _)
          ·conv=>arg 3; whnf
           refine Zd (Za t0 t1 t2 t3 s0.1 x178.1 (w64 (s0.2.2.1-1)) x178.2 m1_0 m1_1 m1_2 m1_3 m1_4 m1_5) (hrc t0 t1 t2 t3 s0.1 x178.1 (w64 (s0.2.2.1-1)) x178.2 m1_0 m1_1 m1_2 m1_3 m1_4 m1_5) fun x180 hx180=>?_
           conv=>arg 3; whnf
           exact Zf (ih _)
         ·conv=>arg 3; whnf
          refine Ze rfl ?_ ?_
          ·conv=>arg 3; whnf
           refine Zd (Za t0 t1 t2 t3 (w64 (x178.1+1)) s0.2.1 (w64 (s0.2.2.1-1)) x178.2 m1_0 m1_1 m1_2 m1_3 m1_4 m1_5) (hrc t0 t1 t2 t3 (w64 (x178.1+1)) s0.2.1 (w64 (s0.2.2.1-1)) x178.2 m1_0 m1_1 m1_2 m1_3 m1_4 m1_5) fun x181 hx181=>?_
           conv=>arg 3; whnf
           exact Zf (ih _)
          ·conv=>arg 3; whnf
           refine Zd (Za t0 t1 t2 t3 (w64 (x178.1+1)) s0.2.1 (w64 (s0.2.2.1-1)) x178.2 m1_0 m1_1 m1_2 m1_3 m1_4 m1_5) (hrc t0 t1 t2 t3 (w64 (x178.1+1)) s0.2.1 (w64 (s0.2.2.1-1)) x178.2 m1_0 m1_1 m1_2 m1_3 m1_4 m1_5) fun x182 hx182=>?_
           conv=>arg 3; whnf
           exact Zf (ih _)
        ·conv=>arg 3; whnf
         refine Zan rfl ?_
         conv=>arg 3; whnf
         refine Zan rfl ?_
         conv=>arg 3; whnf
         refine Ze rfl ?_ ?_
         ·conv=>arg 3; whnf
          refine Ze rfl ?_ ?_
          ·conv=>arg 3; whnf
           refine Zd (Za t0 t1 t2 t3 s0.1 x178.1 (w64 (s0.2.2.1-1)) x178.2 m1_0 m1_1 m1_2 m1_3 m1_4 m1_5) (hrc t0 t1 t2 t3 s0.1 x178.1 (w64 (s0.2.2.1-1)) x178.2 m1_0 m1_1 m1_2 m1_3 m1_4 m1_5) fun x183 hx183=>?_
           conv=>arg 3; whnf
           exact Zf (ih _)
          ·conv=>arg 3; whnf
           refine Zd (Za t0 t1 t2 t3 s0.1 x178.1 (w64 (s0.2.2.1-1)) x178.2 m1_0 m1_1 m1_2 m1_3 m1_4 m1_5) (hrc t0 t1 t2 t3 s0.1 x178.1 (w64 (s0.2.2.1-1)) x178.2 m1_0 m1_1 m1_2 m1_3 m1_4 m1_5) fun x184 hx184=>?_
           conv=>arg 3; whnf
           exact Zf (ih _)
         ·conv=>arg 3; whnf
          refine Ze rfl ?_ ?_
          ·conv=>arg 3; whnf
           refine Zd (Za t0 t1 t2 t3 (w64 (x178.1+1)) s0.2.1 (w64 (s0.2.2.1-1)) x178.2 m1_0 m1_1 m1_2 m1_3 m1_4 m1_5) (hrc t0 t1 t2 t3 (w64 (x178.1+1)) s0.2.1 (w64 (s0.2.2.1-1)) x178.2 m1_0 m1_1 m1_2 m1_3 m1_4 m1_5) fun x185 hx185=>?_
           conv=>arg 3; whnf
           exact Zf (ih _)
          ·conv=>arg 3; whnf
           refine Zd (Za t0 t1 t2 t3 (w64 (x178.1+1)) s0.2.1 (w64 (s0.2.2.1-1)) x178.2 m1_0 m1_1 m1_2 m1_3 m1_4 m1_5) (hrc t0 t1 t2 t3 (w64 (x178.1+1)) s0.2.1 (w64 (s0.2.2.1-1)) x178.2 m1_0 m1_1 m1_2 m1_3 m1_4 m1_5) fun x186 hx186=>?_
           conv=>arg 3; whnf
           exact Zf (ih _)
       ·conv=>arg 3; whnf
        refine Zd _ Zz fun x187 hx187=>?_
        conv=>arg 3; whnf
        exact Zf (ih _)
      ·conv=>arg 3; whnf
       refine Zd _ Zm fun x188 hx188=>?_
       clear hx188
       rcases x188 with x188 | x188
       ·conv=>arg 3; whnf
        refine Zbs rfl ?_
        conv=>arg 3; whnf
        refine Zan rfl ?_
        conv=>arg 3; whnf
        refine Ze rfl ?_ ?_
        ·conv=>arg 3; whnf
         refine Ze rfl ?_ ?_
         ·conv=>arg 3; whnf
          refine Zd (Za t0 t1 t2 t3 s0.1 x188.1 (w64 (s0.2.2.1-1)) x188.2 m1_0 m1_1 m1_2 m1_3 m1_4 m1_5) (hrc t0 t1 t2 t3 s0.1 x188.1 (w64 (s0.2.2.1-1)) x188.2 m1_0 m1_1 m1_2 m1_3 m1_4 m1_5) fun x189 hx189=>?_
          conv=>arg 3; whnf
          exact Zf (ih _)
         ·conv=>arg 3; whnf
          refine Zd (Za t0 t1 t2 t3 s0.1 x188.1 (w64 (s0.2.2.1-1)) x188.2 m1_0 m1_1 m1_2 m1_3 m1_4 m1_5) (hrc t0 t1 t2 t3 s0.1 x188.1 (w64 (s0.2.2.1-1)) x188.2 m1_0 m1_1 m1_2 m1_3 m1_4 m1_5) fun x190 hx190=>?_
          conv=>arg 3; whnf
          exact Zf (ih _)
        ·conv=>arg 3; whnf
         refine Ze rfl ?_ ?_
         ·conv=>arg 3; whnf
          refine Zd (Za t0 t1 t2 t3 (w64 (x188.1+1)) s0.2.1 (w64 (s0.2.2.1-1)) x188.2 m1_0 m1_1 m1_2 m1_3 m1_4 m1_5) (hrc t0 t1 t2 t3 (w64 (x188.1+1)) s0.2.1 (w64 (s0.2.2.1-1)) x188.2 m1_0 m1_1 m1_2 m1_3 m1_4 m1_5) fun x191 hx191=>?_
          conv=>arg 3; whnf
          exact Zf (ih _)
         ·conv=>arg 3; whnf
          refine Zd (Za t0 t1 t2 t3 (w64 (x188.1+1)) s0.2.1 (w64 (s0.2.2.1-1)) x188.2 m1_0 m1_1 m1_2 m1_3 m1_4 m1_5) (hrc t0 t1 t2 t3 (w64 (x188.1+1)) s0.2.1 (w64 (s0.2.2.1-1)) x188.2 m1_0 m1_1 m1_2 m1_3 m1_4 m1_5) fun x192 hx192=>?_
          conv=>arg 3; whnf
          exact Zf (ih _)
       ·conv=>arg 3; whnf
        refine Zan rfl ?_
        conv=>arg 3; whnf
        refine Zan rfl ?_
        conv=>arg 3; whnf
        refine Ze rfl ?_ ?_
        ·conv=>arg 3; whnf
         refine Ze rfl ?_ ?_
         ·conv=>arg 3; whnf
          refine Zd (Za t0 t1 t2 t3 s0.1 x188.1 (w64 (s0.2.2.1-1)) x188.2 m1_0 m1_1 m1_2 m1_3 m1_4 m1_5) (hrc t0 t1 t2 t3 s0.1 x188.1 (w64 (s0.2.2.1-1)) x188.2 m1_0 m1_1 m1_2 m1_3 m1_4 m1_5) fun x193 hx193=>?_
          conv=>arg 3; whnf
          exact Zf (ih _)
         ·conv=>arg 3; whnf
          refine Zd (Za t0 t1 t2 t3 s0.1 x188.1 (w64 (s0.2.2.1-1)) x188.2 m1_0 m1_1 m1_2 m1_3 m1_4 m1_5) (hrc t0 t1 t2 t3 s0.1 x188.1 (w64 (s0.2.2.1-1)) x188.2 m1_0 m1_1 m1_2 m1_3 m1_4 m1_5) fun x194 hx194=>?_
          conv=>arg 3; whnf
          exact Zf (ih _)
        ·conv=>arg 3; whnf
         refine Ze rfl ?_ ?_
         ·conv=>arg 3; whnf
          refine Zd (Za t0 t1 t2 t3 (w64 (x188.1+1)) s0.2.1 (w64 (s0.2.2.1-1)) x188.2 m1_0 m1_1 m1_2 m1_3 m1_4 m1_5) (hrc t0 t1 t2 t3 (w64 (x188.1+1)) s0.2.1 (w64 (s0.2.2.1-1)) x188.2 m1_0 m1_1 m1_2 m1_3 m1_4 m1_5) fun x195 hx195=>?_
          conv=>arg 3; whnf
          exact Zf (ih _)
         ·conv=>arg 3; whnf
          refine Zd (Za t0 t1 t2 t3 (w64 (x188.1+1)) s0.2.1 (w64 (s0.2.2.1-1)) x188.2 m1_0 m1_1 m1_2 m1_3 m1_4 m1_5) (hrc t0 t1 t2 t3 (w64 (x188.1+1)) s0.2.1 (w64 (s0.2.2.1-1)) x188.2 m1_0 m1_1 m1_2 m1_3 m1_4 m1_5) fun x196 hx196=>?_
          conv=>arg 3; whnf
          exact Zf (ih _)
     ·conv=>arg 3; whnf
      refine Ze rfl ?_ ?_
      ·conv=>arg 3; whnf
       refine Zl rfl rfl fun x197 hx197=>?_
       conv=>arg 3; whnf
       refine Zg (ZA rfl hx197) ?_
       conv=>arg 3; whnf
       refine Zl rfl rfl fun x198 hx198=>?_
       conv=>arg 3; whnf
       refine Zg (ZA rfl hx198) ?_
       conv=>arg 3; whnf
       refine Zp _ ZF rfl fun x199 hx199=>?_
       conv=>arg 3; whnf
       refine Ze rfl ?_ ?_
       ·conv=>arg 3; whnf
        refine Zd _ Zm fun x200 hx200=>?_
        clear hx200
        rcases x200 with x200 | x200
        ·conv=>arg 3; whnf
         refine Zbs rfl ?_
         conv=>arg 3; whnf
         refine Zan rfl ?_
         conv=>arg 3; whnf
         refine Ze rfl ?_ ?_
         ·conv=>arg 3; whnf
          refine Ze rfl ?_ ?_
          ·conv=>arg 3; whnf
           refine Zd (Za t0 t1 t2 t3 s0.1 x200.1 (w64 (s0.2.2.1-1)) x200.2 m1_0 m1_1 m1_2 m1_3 m1_4 m1_5) (hrc t0 t1 t2 t3 s0.1 x200.1 (w64 (s0.2.2.1-1)) x200.2 m1_0 m1_1 m1_2 m1_3 m1_4 m1_5) fun x201 hx201=>?_
           conv=>arg 3; whnf
           exact Zf (ih _)
          ·conv=>arg 3; whnf
           refine Zd (Za t0 t1 t2 t3 s0.1 x200.1 (w64 (s0.2.2.1-1)) x200.2 m1_0 m1_1 m1_2 m1_3 m1_4 m1_5) (hrc t0 t1 t2 t3 s0.1 x200.1 (w64 (s0.2.2.1-1)) x200.2 m1_0 m1_1 m1_2 m1_3 m1_4 m1_5) fun x202 hx202=>?_
           conv=>arg 3; whnf
           exact Zf (ih _)
         ·conv=>arg 3; whnf
          refine Ze rfl ?_ ?_
          ·conv=>arg 3; whnf
           refine Zd (Za t0 t1 t2 t3 (w64 (x200.1+1)) s0.2.1 (w64 (s0.2.2.1-1)) x200.2 m1_0 m1_1 m1_2 m1_3 m1_4 m1_5) (hrc t0 t1 t2 t3 (w64 (x200.1+1)) s0.2.1 (w64 (s0.2.2.1-1)) x200.2 m1_0 m1_1 m1_2 m1_3 m1_4 m1_5) fun x203 hx203=>?_
           conv=>arg 3; whnf
           exact Zf (ih _)
          ·conv=>arg 3; whnf
           refine Zd (Za t0 t1 t2 t3 (w64 (x200.1+1)) s0.2.1 (w64 (s0.2.2.1-1)) x200.2 m1_0 m1_1 m1_2 m1_3 m1_4 m1_5) (hrc t0 t1 t2 t3 (w64 (x200.1+1)) s0.2.1 (w64 (s0.2.2.1-1)) x200.2 m1_0 m1_1 m1_2 m1_3 m1_4 m1_5) fun x204 hx204=>?_
           conv=>arg 3; whnf
           exact Zf (ih _)
        ·conv=>arg 3; whnf
         refine Zan rfl ?_
         conv=>arg 3; whnf
         refine Zan rfl ?_
         conv=>arg 3; whnf
         refine Ze rfl ?_ ?_
         ·conv=>arg 3; whnf
          refine Ze rfl ?_ ?_
          ·conv=>arg 3; whnf
           refine Zd (Za t0 t1 t2 t3 s0.1 x200.1 (w64 (s0.2.2.1-1)) x200.2 m1_0 m1_1 m1_2 m1_3 m1_4 m1_5) (hrc t0 t1 t2 t3 s0.1 x200.1 (w64 (s0.2.2.1-1)) x200.2 m1_0 m1_1 m1_2 m1_3 m1_4 m1_5) fun x205 hx205=>?_
           conv=>arg 3; whnf
           exact Zf (ih _)
          ·conv=>arg 3; whnf
           refine Zd (Za t0 t1 t2 t3 s0.1 x200.1 (w64 (s0.2.2.1-1)) x200.2 m1_0 m1_1 m1_2 m1_3 m1_4 m1_5) (hrc t0 t1 t2 t3 s0.1 x200.1 (w64 (s0.2.2.1-1)) x200.2 m1_0 m1_1 m1_2 m1_3 m1_4 m1_5) fun x206 hx206=>?_
           conv=>arg 3; whnf
           exact Zf (ih _)
         ·conv=>arg 3; whnf
          refine Ze rfl ?_ ?_
          ·conv=>arg 3; whnf
           refine Zd (Za t0 t1 t2 t3 (w64 (x200.1+1)) s0.2.1 (w64 (s0.2.2.1-1)) x200.2 m1_0 m1_1 m1_2 m1_3 m1_4 m1_5) (hrc t0 t1 t2 t3 (w64 (x200.1+1)) s0.2.1 (w64 (s0.2.2.1-1)) x200.2 m1_0 m1_1 m1_2 m1_3 m1_4 m1_5) fun x207 hx207=>?_
           conv=>arg 3; whnf
           exact Zf (ih _)
          ·conv=>arg 3; whnf
           refine Zd (Za t0 t1 t2 t3 (w64 (x200.1+1)) s0.2.1 (w64 (s0.2.2.1-1)) x200.2 m1_0 m1_1 m1_2 m1_3 m1_4 m1_5) (hrc t0 t1 t2 t3 (w64 (x200.1+1)) s0.2.1 (w64 (s0.2.2.1-1)) x200.2 m1_0 m1_1 m1_2 m1_3 m1_4 m1_5) fun x208 hx208=>?_
           conv=>arg 3; whnf
           exact Zf (ih _)
       ·conv=>arg 3; whnf
        refine Zd _ Zz fun x209 hx209=>?_
        conv=>arg 3; whnf
        exact Zf (ih _)
      ·conv=>arg 3; whnf
       refine Zd _ Zm fun x210 hx210=>?_
       clear hx210
       rcases x210 with x210 | x210
       ·conv=>arg 3; whnf
        refine Zbs rfl ?_
        conv=>arg 3; whnf
        refine Zan rfl ?_
        conv=>arg 3; whnf
        refine Ze rfl ?_ ?_
        ·conv=>arg 3; whnf
         refine Ze rfl ?_ ?_
         ·conv=>arg 3; whnf
          refine Zd (Za t0 t1 t2 t3 s0.1 x210.1 (w64 (s0.2.2.1-1)) x210.2 m1_0 m1_1 m1_2 m1_3 m1_4 m1_5) (hrc t0 t1 t2 t3 s0.1 x210.1 (w64 (s0.2.2.1-1)) x210.2 m1_0 m1_1 m1_2 m1_3 m1_4 m1_5) fun x211 hx211=>?_
          conv=>arg 3; whnf
          exact Zf (ih _)
         ·conv=>arg 3; whnf
          refine Zd (Za t0 t1 t2 t3 s0.1 x210.1 (w64 (s0.2.2.1-1)) x210.2 m1_0 m1_1 m1_2 m1_3 m1_4 m1_5) (hrc t0 t1 t2 t3 s0.1 x210.1 (w64 (s0.2.2.1-1)) x210.2 m1_0 m1_1 m1_2 m1_3 m1_4 m1_5) fun x212 hx212=>?_
          conv=>arg 3; whnf
          exact Zf (ih _)
        ·conv=>arg 3; whnf
         refine Ze rfl ?_ ?_
         ·conv=>arg 3; whnf
          refine Zd (Za t0 t1 t2 t3 (w64 (x210.1+1)) s0.2.1 (w64 (s0.2.2.1-1)) x210.2 m1_0 m1_1 m1_2 m1_3 m1_4 m1_5) (hrc t0 t1 t2 t3 (w64 (x210.1+1)) s0.2.1 (w64 (s0.2.2.1-1)) x210.2 m1_0 m1_1 m1_2 m1_3 m1_4 m1_5) fun x213 hx213=>?_
          conv=>arg 3; whnf
          exact Zf (ih _)
         ·conv=>arg 3; whnf
          refine Zd (Za t0 t1 t2 t3 (w64 (x210.1+1)) s0.2.1 (w64 (s0.2.2.1-1)) x210.2 m1_0 m1_1 m1_2 m1_3 m1_4 m1_5) (hrc t0 t1 t2 t3 (w64 (x210.1+1)) s0.2.1 (w64 (s0.2.2.1-1)) x210.2 m1_0 m1_1 m1_2 m1_3 m1_4 m1_5) fun x214 hx214=>?_
          conv=>arg 3; whnf
          exact Zf (ih _)
       ·conv=>arg 3; whnf
        refine Zan rfl ?_
        conv=>arg 3; whnf
        refine Zan rfl ?_
        conv=>arg 3; whnf
        refine Ze rfl ?_ ?_
        ·conv=>arg 3; whnf
         refine Ze rfl ?_ ?_
         ·conv=>arg 3; whnf
          refine Zd (Za t0 t1 t2 t3 s0.1 x210.1 (w64 (s0.2.2.1-1)) x210.2 m1_0 m1_1 m1_2 m1_3 m1_4 m1_5) (hrc t0 t1 t2 t3 s0.1 x210.1 (w64 (s0.2.2.1-1)) x210.2 m1_0 m1_1 m1_2 m1_3 m1_4 m1_5) fun x215 hx215=>?_
          conv=>arg 3; whnf
          exact Zf (ih _)
         ·conv=>arg 3; whnf
          refine Zd (Za t0 t1 t2 t3 s0.1 x210.1 (w64 (s0.2.2.1-1)) x210.2 m1_0 m1_1 m1_2 m1_3 m1_4 m1_5) (hrc t0 t1 t2 t3 s0.1 x210.1 (w64 (s0.2.2.1-1)) x210.2 m1_0 m1_1 m1_2 m1_3 m1_4 m1_5) fun x216 hx216=>?_
          conv=>arg 3; whnf
          exact Zf (ih _)
        ·conv=>arg 3; whnf
         refine Ze rfl ?_ ?_
         ·conv=>arg 3; whnf
          refine Zd (Za t0 t1 t2 t3 (w64 (x210.1+1)) s0.2.1 (w64 (s0.2.2.1-1)) x210.2 m1_0 m1_1 m1_2 m1_3 m1_4 m1_5) (hrc t0 t1 t2 t3 (w64 (x210.1+1)) s0.2.1 (w64 (s0.2.2.1-1)) x210.2 m1_0 m1_1 m1_2 m1_3 m1_4 m1_5) fun x217 hx217=>?_
          conv=>arg 3; whnf
          exact Zf (ih _)
         ·conv=>arg 3; whnf
          refine Zd (Za t0 t1 t2 t3 (w64 (x210.1+1)) s0.2.1 (w64 (s0.2.2.1-1)) x210.2 m1_0 m1_1 m1_2 m1_3 m1_4 m1_5) (hrc t0 t1 t2 t3 (w64 (x210.1+1)) s0.2.1 (w64 (s0.2.2.1-1)) x210.2 m1_0 m1_1 m1_2 m1_3 m1_4 m1_5) fun x218 hx218=>?_
          conv=>arg 3; whnf
          exact Zf (ih _)
  ·refine Zsk ?_
   conv=>arg 3; whnf
   refine Ze rfl ?_ ?_
   ·conv=>arg 3; whnf
    refine Zd _ Z9 fun x121 hx121=>?_
    conv=>arg 3; whnf
    exact Zc rfl
   ·conv=>arg 3; whnf
    refine Ze rfl ?_ ?_
    ·conv=>arg 3; whnf
     refine Zd _ Zat fun x122 hx122=>?_
     conv=>arg 3; whnf
     exact Zc rfl
    ·conv=>arg 3; whnf
     refine Zd _ Zby fun x123 hx123=>?_
     conv=>arg 3; whnf
     refine Zd _ Zai fun x124 hx124=>?_
     conv=>arg 3; whnf
     refine Ze rfl ?_ ?_
     ·conv=>arg 3; whnf
      refine Zd _ Zah fun x125 hx125=>?_
      conv=>arg 3; whnf
      refine Ze rfl ?_ ?_
      ·conv=>arg 3; whnf
       refine Zl rfl rfl fun x126 hx126=>?_
       conv=>arg 3; whnf
       refine Zg (ZA rfl hx126) ?_
       conv=>arg 3; whnf
       refine Zl rfl rfl fun x127 hx127=>?_
       conv=>arg 3; whnf
       refine Zg (ZA rfl hx127) ?_
       conv=>arg 3; whnf
       refine Zp _ ZF rfl fun x128 hx128=>?_
       conv=>arg 3; whnf
       refine Ze rfl ?_ ?_
       ·conv=>arg 3; whnf
        refine Zd _ Zm fun x129 hx129=>?_
        clear hx129
        rcases x129 with x129 | x129
        ·conv=>arg 3; whnf
         refine Zbs rfl ?_
         conv=>arg 3; whnf
         refine Zan rfl ?_
         conv=>arg 3; whnf
         refine Ze rfl ?_ ?_
         ·conv=>arg 3; whnf
          refine Ze rfl ?_ ?_
          ·conv=>arg 3; whnf
           refine Zd (Za t0 t1 t2 t3 s0.1 x129.1 (w64 (s0.2.2.1-1)) x129.2 m1_0 m1_1 m1_2 m1_3 m1_4 m1_5) (hrc t0 t1 t2 t3 s0.1 x129.1 (w64 (s0.2.2.1-1)) x129.2 m1_0 m1_1 m1_2 m1_3 m1_4 m1_5) fun x130 hx130=>?_
           conv=>arg 3; whnf
           exact Zf (ih _)
          ·conv=>arg 3; whnf
           refine Zd (Za t0 t1 t2 t3 s0.1 x129.1 (w64 (s0.2.2.1-1)) x129.2 m1_0 m1_1 m1_2 m1_3 m1_4 m1_5) (hrc t0 t1 t2 t3 s0.1 x129.1 (w64 (s0.2.2.1-1)) x129.2 m1_0 m1_1 m1_2 m1_3 m1_4 m1_5) fun x131 hx131=>?_
           conv=>arg 3; whnf
           exact Zf (ih _)
         ·conv=>arg 3; whnf
          refine Ze rfl ?_ ?_
          ·conv=>arg 3; whnf
           refine Zd (Za t0 t1 t2 t3 (w64 (x129.1+1)) s0.2.1 (w64 (s0.2.2.1-1)) x129.2 m1_0 m1_1 m1_2 m1_3 m1_4 m1_5) (hrc t0 t1 t2 t3 (w64 (x129.1+1)) s0.2.1 (w64 (s0.2.2.1-1)) x129.2 m1_0 m1_1 m1_2 m1_3 m1_4 m1_5) fun x132 hx132=>?_
           conv=>arg 3; whnf
           exact Zf (ih _)
          ·conv=>arg 3; whnf
           refine Zd (Za t0 t1 t2 t3 (w64 (x129.1+1)) s0.2.1 (w64 (s0.2.2.1-1)) x129.2 m1_0 m1_1 m1_2 m1_3 m1_4 m1_5) (hrc t0 t1 t2 t3 (w64 (x129.1+1)) s0.2.1 (w64 (s0.2.2.1-1)) x129.2 m1_0 m1_1 m1_2 m1_3 m1_4 m1_5) fun x133 hx133=>?_
           conv=>arg 3; whnf
           exact Zf (ih _)
        ·conv=>arg 3; whnf
         refine Zan rfl ?_
         conv=>arg 3; whnf
         refine Zan rfl ?_
         conv=>arg 3; whnf
         refine Ze rfl ?_ ?_
         ·conv=>arg 3; whnf
          refine Ze rfl ?_ ?_
          ·conv=>arg 3; whnf
           refine Zd (Za t0 t1 t2 t3 s0.1 x129.1 (w64 (s0.2.2.1-1)) x129.2 m1_0 m1_1 m1_2 m1_3 m1_4 m1_5) (hrc t0 t1 t2 t3 s0.1 x129.1 (w64 (s0.2.2.1-1)) x129.2 m1_0 m1_1 m1_2 m1_3 m1_4 m1_5) fun x134 hx134=>?_
           conv=>arg 3; whnf
           exact Zf (ih _)
          ·conv=>arg 3; whnf
           refine Zd (Za t0 t1 t2 t3 s0.1 x129.1 (w64 (s0.2.2.1-1)) x129.2 m1_0 m1_1 m1_2 m1_3 m1_4 m1_5) (hrc t0 t1 t2 t3 s0.1 x129.1 (w64 (s0.2.2.1-1)) x129.2 m1_0 m1_1 m1_2 m1_3 m1_4 m1_5) fun x135 hx135=>?_
           conv=>arg 3; whnf
           exact Zf (ih _)
         ·conv=>arg 3; whnf
          refine Ze rfl ?_ ?_
          ·conv=>arg 3; whnf
           refine Zd (Za t0 t1 t2 t3 (w64 (x129.1+1)) s0.2.1 (w64 (s0.2.2.1-1)) x129.2 m1_0 m1_1 m1_2 m1_3 m1_4 m1_5) (hrc t0 t1 t2 t3 (w64 (x129.1+1)) s0.2.1 (w64 (s0.2.2.1-1)) x129.2 m1_0 m1_1 m1_2 m1_3 m1_4 m1_5) fun x136 hx136=>?_
           conv=>arg 3; whnf
           exact Zf (ih _)
          ·conv=>arg 3; whnf
           refine Zd (Za t0 t1 t2 t3 (w64 (x129.1+1)) s0.2.1 (w64 (s0.2.2.1-1)) x129.2 m1_0 m1_1 m1_2 m1_3 m1_4 m1_5) (hrc t0 t1 t2 t3 (w64 (x129.1+1)) s0.2.1 (w64 (s0.2.2.1-1)) x129.2 m1_0 m1_1 m1_2 m1_3 m1_4 m1_5) fun x137 hx137=>?_
           conv=>arg 3; whnf
           exact Zf (ih _)
       ·conv=>arg 3; whnf
        refine Zd _ Zz fun x138 hx138=>?_
        conv=>arg 3; whnf
        exact Zf (ih _)
      ·conv=>arg 3; whnf
       refine Zd _ Zm fun x139 hx139=>?_
       clear hx139
       rcases x139 with x139 | x139
       ·conv=>arg 3; whnf
        refine Zbs rfl ?_
        conv=>arg 3; whnf
        refine Zan rfl ?_
        conv=>arg 3; whnf
        refine Ze rfl ?_ ?_
        ·conv=>arg 3; whnf
         refine Ze rfl ?_ ?_
         ·conv=>arg 3; whnf
          refine Zd (Za t0 t1 t2 t3 s0.1 x139.1 (w64 (s0.2.2.1-1)) x139.2 m1_0 m1_1 m1_2 m1_3 m1_4 m1_5) (hrc t0 t1 t2 t3 s0.1 x139.1 (w64 (s0.2.2.1-1)) x139.2 m1_0 m1_1 m1_2 m1_3 m1_4 m1_5) fun x140 hx140=>?_
          conv=>arg 3; whnf
          exact Zf (ih _)
         ·conv=>arg 3; whnf
          refine Zd (Za t0 t1 t2 t3 s0.1 x139.1 (w64 (s0.2.2.1-1)) x139.2 m1_0 m1_1 m1_2 m1_3 m1_4 m1_5) (hrc t0 t1 t2 t3 s0.1 x139.1 (w64 (s0.2.2.1-1)) x139.2 m1_0 m1_1 m1_2 m1_3 m1_4 m1_5) fun x141 hx141=>?_
          conv=>arg 3; whnf
          exact Zf (ih _)
        ·conv=>arg 3; whnf
         refine Ze rfl ?_ ?_
         ·conv=>arg 3; whnf
          refine Zd (Za t0 t1 t2 t3 (w64 (x139.1+1)) s0.2.1 (w64 (s0.2.2.1-1)) x139.2 m1_0 m1_1 m1_2 m1_3 m1_4 m1_5) (hrc t0 t1 t2 t3 (w64 (x139.1+1)) s0.2.1 (w64 (s0.2.2.1-1)) x139.2 m1_0 m1_1 m1_2 m1_3 m1_4 m1_5) fun x142 hx142=>?_
          conv=>arg 3; whnf
          exact Zf (ih _)
         ·conv=>arg 3; whnf
          refine Zd (Za t0 t1 t2 t3 (w64 (x139.1+1)) s0.2.1 (w64 (s0.2.2.1-1)) x139.2 m1_0 m1_1 m1_2 m1_3 m1_4 m1_5) (hrc t0 t1 t2 t3 (w64 (x139.1+1)) s0.2.1 (w64 (s0.2.2.1-1)) x139.2 m1_0 m1_1 m1_2 m1_3 m1_4 m1_5) fun x143 hx143=>?_
          conv=>arg 3; whnf
          exact Zf (ih _)
       ·conv=>arg 3; whnf
        refine Zan rfl ?_
        conv=>arg 3; whnf
        refine Zan rfl ?_
        conv=>arg 3; whnf
        refine Ze rfl ?_ ?_
        ·conv=>arg 3; whnf
         refine Ze rfl ?_ ?_
         ·conv=>arg 3; whnf
          refine Zd (Za t0 t1 t2 t3 s0.1 x139.1 (w64 (s0.2.2.1-1)) x139.2 m1_0 m1_1 m1_2 m1_3 m1_4 m1_5) (hrc t0 t1 t2 t3 s0.1 x139.1 (w64 (s0.2.2.1-1)) x139.2 m1_0 m1_1 m1_2 m1_3 m1_4 m1_5) fun x144 hx144=>?_
          conv=>arg 3; whnf
          exact Zf (ih _)
         ·conv=>arg 3; whnf
          refine Zd (Za t0 t1 t2 t3 s0.1 x139.1 (w64 (s0.2.2.1-1)) x139.2 m1_0 m1_1 m1_2 m1_3 m1_4 m1_5) (hrc t0 t1 t2 t3 s0.1 x139.1 (w64 (s0.2.2.1-1)) x139.2 m1_0 m1_1 m1_2 m1_3 m1_4 m1_5) fun x145 hx145=>?_
          conv=>arg 3; whnf
          exact Zf (ih _)
        ·conv=>arg 3; whnf
         refine Ze rfl ?_ ?_
         ·conv=>arg 3; whnf
          refine Zd (Za t0 t1 t2 t3 (w64 (x139.1+1)) s0.2.1 (w64 (s0.2.2.1-1)) x139.2 m1_0 m1_1 m1_2 m1_3 m1_4 m1_5) (hrc t0 t1 t2 t3 (w64 (x139.1+1)) s0.2.1 (w64 (s0.2.2.1-1)) x139.2 m1_0 m1_1 m1_2 m1_3 m1_4 m1_5) fun x146 hx146=>?_
          conv=>arg 3; whnf
          exact Zf (ih _)
         ·conv=>arg 3; whnf
          refine Zd (Za t0 t1 t2 t3 (w64 (x139.1+1)) s0.2.1 (w64 (s0.2.2.1-1)) x139.2 m1_0 m1_1 m1_2 m1_3 m1_4 m1_5) (hrc t0 t1 t2 t3 (w64 (x139.1+1)) s0.2.1 (w64 (s0.2.2.1-1)) x139.2 m1_0 m1_1 m1_2 m1_3 m1_4 m1_5) fun x147 hx147=>?_
          conv=>arg 3; whnf
          exact Zf (ih _)
     ·conv=>arg 3; whnf
      refine Ze rfl ?_ ?_
      ·conv=>arg 3; whnf
       refine Zl rfl rfl fun x148 hx148=>?_
       conv=>arg 3; whnf
       refine Zg (ZA rfl hx148) ?_
       conv=>arg 3; whnf
       refine Zl rfl rfl fun x149 hx149=>?_
       conv=>arg 3; whnf
       refine Zg (ZA rfl hx149) ?_
       conv=>arg 3; whnf
       refine Zp _ ZF rfl fun x150 hx150=>?_
       conv=>arg 3; whnf
       refine Ze rfl ?_ ?_
       ·conv=>arg 3; whnf
        refine Zd _ Zm fun x151 hx151=>?_
        clear hx151
        rcases x151 with x151 | x151
        ·conv=>arg 3; whnf
         refine Zbs rfl ?_
         conv=>arg 3; whnf
         refine Zan rfl ?_
         conv=>arg 3; whnf
         refine Ze rfl ?_ ?_
         ·conv=>arg 3; whnf
          refine Ze rfl ?_ ?_
          ·conv=>arg 3; whnf
           refine Zd (Za t0 t1 t2 t3 s0.1 x151.1 (w64 (s0.2.2.1-1)) x151.2 m1_0 m1_1 m1_2 m1_3 m1_4 m1_5) (hrc t0 t1 t2 t3 s0.1 x151.1 (w64 (s0.2.2.1-1)) x151.2 m1_0 m1_1 m1_2 m1_3 m1_4 m1_5) fun x152 hx152=>?_
           conv=>arg 3; whnf
           exact Zf (ih _)
          ·conv=>arg 3; whnf
           refine Zd (Za t0 t1 t2 t3 s0.1 x151.1 (w64 (s0.2.2.1-1)) x151.2 m1_0 m1_1 m1_2 m1_3 m1_4 m1_5) (hrc t0 t1 t2 t3 s0.1 x151.1 (w64 (s0.2.2.1-1)) x151.2 m1_0 m1_1 m1_2 m1_3 m1_4 m1_5) fun x153 hx153=>?_
           conv=>arg 3; whnf
           exact Zf (ih _)
         ·conv=>arg 3; whnf
          refine Ze rfl ?_ ?_
          ·conv=>arg 3; whnf
           refine Zd (Za t0 t1 t2 t3 (w64 (x151.1+1)) s0.2.1 (w64 (s0.2.2.1-1)) x151.2 m1_0 m1_1 m1_2 m1_3 m1_4 m1_5) (hrc t0 t1 t2 t3 (w64 (x151.1+1)) s0.2.1 (w64 (s0.2.2.1-1)) x151.2 m1_0 m1_1 m1_2 m1_3 m1_4 m1_5) fun x154 hx154=>?_
           conv=>arg 3; whnf
           exact Zf (ih _)
          ·conv=>arg 3; whnf
           refine Zd (Za t0 t1 t2 t3 (w64 (x151.1+1)) s0.2.1 (w64 (s0.2.2.1-1)) x151.2 m1_0 m1_1 m1_2 m1_3 m1_4 m1_5) (hrc t0 t1 t2 t3 (w64 (x151.1+1)) s0.2.1 (w64 (s0.2.2.1-1)) x151.2 m1_0 m1_1 m1_2 m1_3 m1_4 m1_5) fun x155 hx155=>?_
           conv=>arg 3; whnf
           exact Zf (ih _)
        ·conv=>arg 3; whnf
         refine Zan rfl ?_
         conv=>arg 3; whnf
         refine Zan rfl ?_
         conv=>arg 3; whnf
         refine Ze rfl ?_ ?_
         ·conv=>arg 3; whnf
          refine Ze rfl ?_ ?_
          ·conv=>arg 3; whnf
           refine Zd (Za t0 t1 t2 t3 s0.1 x151.1 (w64 (s0.2.2.1-1)) x151.2 m1_0 m1_1 m1_2 m1_3 m1_4 m1_5) (hrc t0 t1 t2 t3 s0.1 x151.1 (w64 (s0.2.2.1-1)) x151.2 m1_0 m1_1 m1_2 m1_3 m1_4 m1_5) fun x156 hx156=>?_
           conv=>arg 3; whnf
           exact Zf (ih _)
          ·conv=>arg 3; whnf
           refine Zd (Za t0 t1 t2 t3 s0.1 x151.1 (w64 (s0.2.2.1-1)) x151.2 m1_0 m1_1 m1_2 m1_3 m1_4 m1_5) (hrc t0 t1 t2 t3 s0.1 x151.1 (w64 (s0.2.2.1-1)) x151.2 m1_0 m1_1 m1_2 m1_3 m1_4 m1_5) fun x157 hx157=>?_
           conv=>arg 3; whnf
           exact Zf (ih _)
         ·conv=>arg 3; whnf
          refine Ze rfl ?_ ?_
          ·conv=>arg 3; whnf
           refine Zd (Za t0 t1 t2 t3 (w64 (x151.1+1)) s0.2.1 (w64 (s0.2.2.1-1)) x151.2 m1_0 m1_1 m1_2 m1_3 m1_4 m1_5) (hrc t0 t1 t2 t3 (w64 (x151.1+1)) s0.2.1 (w64 (s0.2.2.1-1)) x151.2 m1_0 m1_1 m1_2 m1_3 m1_4 m1_5) fun x158 hx158=>?_
           conv=>arg 3; whnf
           exact Zf (ih _)
          ·conv=>arg 3; whnf
           refine Zd (Za t0 t1 t2 t3 (w64 (x151.1+1)) s0.2.1 (w64 (s0.2.2.1-1)) x151.2 m1_0 m1_1 m1_2 m1_3 m1_4 m1_5) (hrc t0 t1 t2 t3 (w64 (x151.1+1)) s0.2.1 (w64 (s0.2.2.1-1)) x151.2 m1_0 m1_1 m1_2 m1_3 m1_4 m1_5) fun x159 hx159=>?_
           conv=>arg 3; whnf
           exact Zf (ih _)
       ·conv=>arg 3; whnf
        refine Zd _ Zz fun x160 hx160=>?_
        conv=>arg 3; whnf
        exact Zf (ih _)
      ·conv=>arg 3; whnf
       refine Zd _ Zm fun x161 hx161=>?_
       clear hx161
       rcases x161 with x161 | x161
       ·conv=>arg 3; whnf
        refine Zbs rfl ?_
        conv=>arg 3; whnf
        refine Zan rfl ?_
        conv=>arg 3; whnf
        refine Ze rfl ?_ ?_
        ·conv=>arg 3; whnf
         refine Ze rfl ?_ ?_
         ·conv=>arg 3; whnf
          refine Zd (Za t0 t1 t2 t3 s0.1 x161.1 (w64 (s0.2.2.1-1)) x161.2 m1_0 m1_1 m1_2 m1_3 m1_4 m1_5) (hrc t0 t1 t2 t3 s0.1 x161.1 (w64 (s0.2.2.1-1)) x161.2 m1_0 m1_1 m1_2 m1_3 m1_4 m1_5) fun x162 hx162=>?_
          conv=>arg 3; whnf
          exact Zf (ih _)
         ·conv=>arg 3; whnf
          refine Zd (Za t0 t1 t2 t3 s0.1 x161.1 (w64 (s0.2.2.1-1)) x161.2 m1_0 m1_1 m1_2 m1_3 m1_4 m1_5) (hrc t0 t1 t2 t3 s0.1 x161.1 (w64 (s0.2.2.1-1)) x161.2 m1_0 m1_1 m1_2 m1_3 m1_4 m1_5) fun x163 hx163=>?_
          conv=>arg 3; whnf
          exact Zf (ih _)
        ·conv=>arg 3; whnf
         refine Ze rfl ?_ ?_
         ·conv=>arg 3; whnf
          refine Zd (Za t0 t1 t2 t3 (w64 (x161.1+1)) s0.2.1 (w64 (s0.2.2.1-1)) x161.2 m1_0 m1_1 m1_2 m1_3 m1_4 m1_5) (hrc t0 t1 t2 t3 (w64 (x161.1+1)) s0.2.1 (w64 (s0.2.2.1-1)) x161.2 m1_0 m1_1 m1_2 m1_3 m1_4 m1_5) fun x164 hx164=>?_
          conv=>arg 3; whnf
          exact Zf (ih _)
         ·conv=>arg 3; whnf
          refine Zd (Za t0 t1 t2 t3 (w64 (x161.1+1)) s0.2.1 (w64 (s0.2.2.1-1)) x161.2 m1_0 m1_1 m1_2 m1_3 m1_4 m1_5) (hrc t0 t1 t2 t3 (w64 (x161.1+1)) s0.2.1 (w64 (s0.2.2.1-1)) x161.2 m1_0 m1_1 m1_2 m1_3 m1_4 m1_5) fun x165 hx165=>?_
          conv=>arg 3; whnf
          exact Zf (ih _)
       ·conv=>arg 3; whnf
        refine Zan rfl ?_
        conv=>arg 3; whnf
        refine Zan rfl ?_
        conv=>arg 3; whnf
        refine Ze rfl ?_ ?_
        ·conv=>arg 3; whnf
         refine Ze rfl ?_ ?_
         ·conv=>arg 3; whnf
          refine Zd (Za t0 t1 t2 t3 s0.1 x161.1 (w64 (s0.2.2.1-1)) x161.2 m1_0 m1_1 m1_2 m1_3 m1_4 m1_5) (hrc t0 t1 t2 t3 s0.1 x161.1 (w64 (s0.2.2.1-1)) x161.2 m1_0 m1_1 m1_2 m1_3 m1_4 m1_5) fun x166 hx166=>?_
          conv=>arg 3; whnf
          exact Zf (ih _)
         ·conv=>arg 3; whnf
          refine Zd (Za t0 t1 t2 t3 s0.1 x161.1 (w64 (s0.2.2.1-1)) x161.2 m1_0 m1_1 m1_2 m1_3 m1_4 m1_5) (hrc t0 t1 t2 t3 s0.1 x161.1 (w64 (s0.2.2.1-1)) x161.2 m1_0 m1_1 m1_2 m1_3 m1_4 m1_5) fun x167 hx167=>?_
          conv=>arg 3; whnf
          exact Zf (ih _)
        ·conv=>arg 3; whnf
         refine Ze rfl ?_ ?_
         ·conv=>arg 3; whnf
          refine Zd (Za t0 t1 t2 t3 (w64 (x161.1+1)) s0.2.1 (w64 (s0.2.2.1-1)) x161.2 m1_0 m1_1 m1_2 m1_3 m1_4 m1_5) (hrc t0 t1 t2 t3 (w64 (x161.1+1)) s0.2.1 (w64 (s0.2.2.1-1)) x161.2 m1_0 m1_1 m1_2 m1_3 m1_4 m1_5) fun x168 hx168=>?_
          conv=>arg 3; whnf
          exact Zf (ih _)
         ·conv=>arg 3; whnf
          refine Zd (Za t0 t1 t2 t3 (w64 (x161.1+1)) s0.2.1 (w64 (s0.2.2.1-1)) x161.2 m1_0 m1_1 m1_2 m1_3 m1_4 m1_5) (hrc t0 t1 t2 t3 (w64 (x161.1+1)) s0.2.1 (w64 (s0.2.2.1-1)) x161.2 m1_0 m1_1 m1_2 m1_3 m1_4 m1_5) fun x169 hx169=>?_
          conv=>arg 3; whnf
          exact Zf (ih _)
 ·refine Zsk ?_
  rcases hb:s0.2.2.2.2.1 with _ | _
  ·refine Zs6 ?_
   conv=>arg 3; whnf
   refine Ze rfl ?_ ?_
   ·conv=>arg 3; whnf
    refine Zd _ Z9 fun x73 hx73=>?_
    conv=>arg 3; whnf
    exact Zc rfl
   ·conv=>arg 3; whnf
    refine Ze rfl ?_ ?_
    ·conv=>arg 3; whnf
     refine Zd _ Zat fun x74 hx74=>?_
     conv=>arg 3; whnf
     exact Zc rfl
    ·conv=>arg 3; whnf
     refine Zd _ Zai fun x75 hx75=>?_
     conv=>arg 3; whnf
     refine Ze rfl ?_ ?_
     ·conv=>arg 3; whnf
      refine Zd _ Zah fun x76 hx76=>?_
      conv=>arg 3; whnf
      refine Ze rfl ?_ ?_
      ·conv=>arg 3; whnf
       refine Zl rfl rfl fun x77 hx77=>?_
       conv=>arg 3; whnf
       refine Zg (ZA rfl hx77) ?_
       conv=>arg 3; whnf
       refine Zl rfl rfl fun x78 hx78=>?_
       conv=>arg 3; whnf
       refine Zg (ZA rfl hx78) ?_
       conv=>arg 3; whnf
       refine Zp _ ZF rfl fun x79 hx79=>?_
       conv=>arg 3; whnf
       refine Ze rfl ?_ ?_
       ·conv=>arg 3; whnf
        refine Zd _ Zm fun x80 hx80=>?_
        clear hx80
        rcases x80 with x80 | x80
        ·conv=>arg 3; whnf
         refine Zbs rfl ?_
         conv=>arg 3; whnf
         refine Zan rfl ?_
         conv=>arg 3; whnf
         refine Ze rfl ?_ ?_
         ·conv=>arg 3; whnf
          refine Ze rfl ?_ ?_
          ·conv=>arg 3; whnf
           refine Zd (Za t0 t1 t2 t3 s0.1 x80.1 s0.2.2.1 x80.2 m1_0 m1_1 m1_2 m1_3 m1_4 m1_5) (hrc t0 t1 t2 t3 s0.1 x80.1 s0.2.2.1 x80.2 m1_0 m1_1 m1_2 m1_3 m1_4 m1_5) fun x81 hx81=>?_
           conv=>arg 3; whnf
           exact Zf (ih _)
          ·conv=>arg 3; whnf
           refine Zd (Za t0 t1 t2 t3 s0.1 x80.1 s0.2.2.1 x80.2 m1_0 m1_1 m1_2 m1_3 m1_4 m1_5) (hrc t0 t1 t2 t3 s0.1 x80.1 s0.2.2.1 x80.2 m1_0 m1_1 m1_2 m1_3 m1_4 m1_5) fun x82 hx82=>?_
           conv=>arg 3; whnf
           exact Zf (ih _)
         ·conv=>arg 3; whnf
          refine Ze rfl ?_ ?_
          ·conv=>arg 3; whnf
           refine Zd (Za t0 t1 t2 t3 (w64 (x80.1+1)) s0.2.1 s0.2.2.1 x80.2 m1_0 m1_1 m1_2 m1_3 m1_4 m1_5) (hrc t0 t1 t2 t3 (w64 (x80.1+1)) s0.2.1 s0.2.2.1 x80.2 m1_0 m1_1 m1_2 m1_3 m1_4 m1_5) fun x83 hx83=>?_
           conv=>arg 3; whnf
           exact Zf (ih _)
          ·conv=>arg 3; whnf
           refine Zd (Za t0 t1 t2 t3 (w64 (x80.1+1)) s0.2.1 s0.2.2.1 x80.2 m1_0 m1_1 m1_2 m1_3 m1_4 m1_5) (hrc t0 t1 t2 t3 (w64 (x80.1+1)) s0.2.1 s0.2.2.1 x80.2 m1_0 m1_1 m1_2 m1_3 m1_4 m1_5) fun x84 hx84=>?_
           conv=>arg 3; whnf
           exact Zf (ih _)
        ·conv=>arg 3; whnf
         refine Zan rfl ?_
         conv=>arg 3; whnf
         refine Zan rfl ?_
         conv=>arg 3; whnf
         refine Ze rfl ?_ ?_
         ·conv=>arg 3; whnf
          refine Ze rfl ?_ ?_
          ·conv=>arg 3; whnf
           refine Zd (Za t0 t1 t2 t3 s0.1 x80.1 s0.2.2.1 x80.2 m1_0 m1_1 m1_2 m1_3 m1_4 m1_5) (hrc t0 t1 t2 t3 s0.1 x80.1 s0.2.2.1 x80.2 m1_0 m1_1 m1_2 m1_3 m1_4 m1_5) fun x85 hx85=>?_
           conv=>arg 3; whnf
           exact Zf (ih _)
          ·conv=>arg 3; whnf
           refine Zd (Za t0 t1 t2 t3 s0.1 x80.1 s0.2.2.1 x80.2 m1_0 m1_1 m1_2 m1_3 m1_4 m1_5) (hrc t0 t1 t2 t3 s0.1 x80.1 s0.2.2.1 x80.2 m1_0 m1_1 m1_2 m1_3 m1_4 m1_5) fun x86 hx86=>?_
           conv=>arg 3; whnf
           exact Zf (ih _)
         ·conv=>arg 3; whnf
          refine Ze rfl ?_ ?_
          ·conv=>arg 3; whnf
           refine Zd (Za t0 t1 t2 t3 (w64 (x80.1+1)) s0.2.1 s0.2.2.1 x80.2 m1_0 m1_1 m1_2 m1_3 m1_4 m1_5) (hrc t0 t1 t2 t3 (w64 (x80.1+1)) s0.2.1 s0.2.2.1 x80.2 m1_0 m1_1 m1_2 m1_3 m1_4 m1_5) fun x87 hx87=>?_
           conv=>arg 3; whnf
           exact Zf (ih _)
          ·conv=>arg 3; whnf
           refine Zd (Za t0 t1 t2 t3 (w64 (x80.1+1)) s0.2.1 s0.2.2.1 x80.2 m1_0 m1_1 m1_2 m1_3 m1_4 m1_5) (hrc t0 t1 t2 t3 (w64 (x80.1+1)) s0.2.1 s0.2.2.1 x80.2 m1_0 m1_1 m1_2 m1_3 m1_4 m1_5) fun x88 hx88=>?_
           conv=>arg 3; whnf
           exact Zf (ih _)
       ·conv=>arg 3; whnf
        refine Zd _ Zz fun x89 hx89=>?_
        conv=>arg 3; whnf
        exact Zf (ih _)
      ·conv=>arg 3; whnf
       refine Zd _ Zm fun x90 hx90=>?_
       clear hx90
       rcases x90 with x90 | x90
       ·conv=>arg 3; whnf
        refine Zbs rfl ?_
        conv=>arg 3; whnf
        refine Zan rfl ?_
        conv=>arg 3; whnf
        refine Ze rfl ?_ ?_
        ·conv=>arg 3; whnf
         refine Ze rfl ?_ ?_
         ·conv=>arg 3; whnf
          refine Zd (Za t0 t1 t2 t3 s0.1 x90.1 s0.2.2.1 x90.2 m1_0 m1_1 m1_2 m1_3 m1_4 m1_5) (hrc t0 t1 t2 t3 s0.1 x90.1 s0.2.2.1 x90.2 m1_0 m1_1 m1_2 m1_3 m1_4 m1_5) fun x91 hx91=>?_
          conv=>arg 3; whnf
          exact Zf (ih _)
         ·conv=>arg 3; whnf
          refine Zd (Za t0 t1 t2 t3 s0.1 x90.1 s0.2.2.1 x90.2 m1_0 m1_1 m1_2 m1_3 m1_4 m1_5) (hrc t0 t1 t2 t3 s0.1 x90.1 s0.2.2.1 x90.2 m1_0 m1_1 m1_2 m1_3 m1_4 m1_5) fun x92 hx92=>?_
          conv=>arg 3; whnf
          exact Zf (ih _)
        ·conv=>arg 3; whnf
         refine Ze rfl ?_ ?_
         ·conv=>arg 3; whnf
          refine Zd (Za t0 t1 t2 t3 (w64 (x90.1+1)) s0.2.1 s0.2.2.1 x90.2 m1_0 m1_1 m1_2 m1_3 m1_4 m1_5) (hrc t0 t1 t2 t3 (w64 (x90.1+1)) s0.2.1 s0.2.2.1 x90.2 m1_0 m1_1 m1_2 m1_3 m1_4 m1_5) fun x93 hx93=>?_
          conv=>arg 3; whnf
          exact Zf (ih _)
         ·conv=>arg 3; whnf
          refine Zd (Za t0 t1 t2 t3 (w64 (x90.1+1)) s0.2.1 s0.2.2.1 x90.2 m1_0 m1_1 m1_2 m1_3 m1_4 m1_5) (hrc t0 t1 t2 t3 (w64 (x90.1+1)) s0.2.1 s0.2.2.1 x90.2 m1_0 m1_1 m1_2 m1_3 m1_4 m1_5) fun x94 hx94=>?_
          conv=>arg 3; whnf
          exact Zf (ih _)
       ·conv=>arg 3; whnf
        refine Zan rfl ?_
        conv=>arg 3; whnf
        refine Zan rfl ?_
        conv=>arg 3; whnf
        refine Ze rfl ?_ ?_
        ·conv=>arg 3; whnf
         refine Ze rfl ?_ ?_
         ·conv=>arg 3; whnf
          refine Zd (Za t0 t1 t2 t3 s0.1 x90.1 s0.2.2.1 x90.2 m1_0 m1_1 m1_2 m1_3 m1_4 m1_5) (hrc t0 t1 t2 t3 s0.1 x90.1 s0.2.2.1 x90.2 m1_0 m1_1 m1_2 m1_3 m1_4 m1_5) fun x95 hx95=>?_
          conv=>arg 3; whnf
          exact Zf (ih _)
         ·conv=>arg 3; whnf
          refine Zd (Za t0 t1 t2 t3 s0.1 x90.1 s0.2.2.1 x90.2 m1_0 m1_1 m1_2 m1_3 m1_4 m1_5) (hrc t0 t1 t2 t3 s0.1 x90.1 s0.2.2.1 x90.2 m1_0 m1_1 m1_2 m1_3 m1_4 m1_5) fun x96 hx96=>?_
          conv=>arg 3; whnf
          exact Zf (ih _)
        ·conv=>arg 3; whnf
         refine Ze rfl ?_ ?_
         ·conv=>arg 3; whnf
          refine Zd (Za t0 t1 t2 t3 (w64 (x90.1+1)) s0.2.1 s0.2.2.1 x90.2 m1_0 m1_1 m1_2 m1_3 m1_4 m1_5) (hrc t0 t1 t2 t3 (w64 (x90.1+1)) s0.2.1 s0.2.2.1 x90.2 m1_0 m1_1 m1_2 m1_3 m1_4 m1_5) fun x97 hx97=>?_
          conv=>arg 3; whnf
          exact Zf (ih _)
         ·conv=>arg 3; whnf
          refine Zd (Za t0 t1 t2 t3 (w64 (x90.1+1)) s0.2.1 s0.2.2.1 x90.2 m1_0 m1_1 m1_2 m1_3 m1_4 m1_5) (hrc t0 t1 t2 t3 (w64 (x90.1+1)) s0.2.1 s0.2.2.1 x90.2 m1_0 m1_1 m1_2 m1_3 m1_4 m1_5) fun x98 hx98=>?_
          conv=>arg 3; whnf
          exact Zf (ih _)
     ·conv=>arg 3; whnf
      refine Ze rfl ?_ ?_
      ·conv=>arg 3; whnf
       refine Zl rfl rfl fun x99 hx99=>?_
       conv=>arg 3; whnf
       refine Zg (ZA rfl hx99) ?_
       conv=>arg 3; whnf
       refine Zl rfl rfl fun x100 hx100=>?_
       conv=>arg 3; whnf
       refine Zg (ZA rfl hx100) ?_
       conv=>arg 3; whnf
       refine Zp _ ZF rfl fun x101 hx101=>?_
       conv=>arg 3; whnf
       refine Ze rfl ?_ ?_
       ·conv=>arg 3; whnf
        refine Zd _ Zm fun x102 hx102=>?_
        clear hx102
        rcases x102 with x102 | x102
        ·conv=>arg 3; whnf
         refine Zbs rfl ?_
         conv=>arg 3; whnf
         refine Zan rfl ?_
         conv=>arg 3; whnf
         refine Ze rfl ?_ ?_
         ·conv=>arg 3; whnf
          refine Ze rfl ?_ ?_
          ·conv=>arg 3; whnf
           refine Zd (Za t0 t1 t2 t3 s0.1 x102.1 s0.2.2.1 x102.2 m1_0 m1_1 m1_2 m1_3 m1_4 m1_5) (hrc t0 t1 t2 t3 s0.1 x102.1 s0.2.2.1 x102.2 m1_0 m1_1 m1_2 m1_3 m1_4 m1_5) fun x103 hx103=>?_
           conv=>arg 3; whnf
           exact Zf (ih _)
          ·conv=>arg 3; whnf
           refine Zd (Za t0 t1 t2 t3 s0.1 x102.1 s0.2.2.1 x102.2 m1_0 m1_1 m1_2 m1_3 m1_4 m1_5) (hrc t0 t1 t2 t3 s0.1 x102.1 s0.2.2.1 x102.2 m1_0 m1_1 m1_2 m1_3 m1_4 m1_5) fun x104 hx104=>?_
           conv=>arg 3; whnf
           exact Zf (ih _)
         ·conv=>arg 3; whnf
          refine Ze rfl ?_ ?_
          ·conv=>arg 3; whnf
           refine Zd (Za t0 t1 t2 t3 (w64 (x102.1+1)) s0.2.1 s0.2.2.1 x102.2 m1_0 m1_1 m1_2 m1_3 m1_4 m1_5) (hrc t0 t1 t2 t3 (w64 (x102.1+1)) s0.2.1 s0.2.2.1 x102.2 m1_0 m1_1 m1_2 m1_3 m1_4 m1_5) fun x105 hx105=>?_
           conv=>arg 3; whnf
           exact Zf (ih _)
          ·conv=>arg 3; whnf
           refine Zd (Za t0 t1 t2 t3 (w64 (x102.1+1)) s0.2.1 s0.2.2.1 x102.2 m1_0 m1_1 m1_2 m1_3 m1_4 m1_5) (hrc t0 t1 t2 t3 (w64 (x102.1+1)) s0.2.1 s0.2.2.1 x102.2 m1_0 m1_1 m1_2 m1_3 m1_4 m1_5) fun x106 hx106=>?_
           conv=>arg 3; whnf
           exact Zf (ih _)
        ·conv=>arg 3; whnf
         refine Zan rfl ?_
         conv=>arg 3; whnf
         refine Zan rfl ?_
         conv=>arg 3; whnf
         refine Ze rfl ?_ ?_
         ·conv=>arg 3; whnf
          refine Ze rfl ?_ ?_
          ·conv=>arg 3; whnf
           refine Zd (Za t0 t1 t2 t3 s0.1 x102.1 s0.2.2.1 x102.2 m1_0 m1_1 m1_2 m1_3 m1_4 m1_5) (hrc t0 t1 t2 t3 s0.1 x102.1 s0.2.2.1 x102.2 m1_0 m1_1 m1_2 m1_3 m1_4 m1_5) fun x107 hx107=>?_
           conv=>arg 3; whnf
           exact Zf (ih _)
          ·conv=>arg 3; whnf
           refine Zd (Za t0 t1 t2 t3 s0.1 x102.1 s0.2.2.1 x102.2 m1_0 m1_1 m1_2 m1_3 m1_4 m1_5) (hrc t0 t1 t2 t3 s0.1 x102.1 s0.2.2.1 x102.2 m1_0 m1_1 m1_2 m1_3 m1_4 m1_5) fun x108 hx108=>?_
           conv=>arg 3; whnf
           exact Zf (ih _)
         ·conv=>arg 3; whnf
          refine Ze rfl ?_ ?_
          ·conv=>arg 3; whnf
           refine Zd (Za t0 t1 t2 t3 (w64 (x102.1+1)) s0.2.1 s0.2.2.1 x102.2 m1_0 m1_1 m1_2 m1_3 m1_4 m1_5) (hrc t0 t1 t2 t3 (w64 (x102.1+1)) s0.2.1 s0.2.2.1 x102.2 m1_0 m1_1 m1_2 m1_3 m1_4 m1_5) fun x109 hx109=>?_
           conv=>arg 3; whnf
           exact Zf (ih _)
          ·conv=>arg 3; whnf
           refine Zd (Za t0 t1 t2 t3 (w64 (x102.1+1)) s0.2.1 s0.2.2.1 x102.2 m1_0 m1_1 m1_2 m1_3 m1_4 m1_5) (hrc t0 t1 t2 t3 (w64 (x102.1+1)) s0.2.1 s0.2.2.1 x102.2 m1_0 m1_1 m1_2 m1_3 m1_4 m1_5) fun x110 hx110=>?_
           conv=>arg 3; whnf
           exact Zf (ih _)
       ·conv=>arg 3; whnf
        refine Zd _ Zz fun x111 hx111=>?_
        conv=>arg 3; whnf
        exact Zf (ih _)
      ·conv=>arg 3; whnf
       refine Zd _ Zm fun x112 hx112=>?_
       clear hx112
       rcases x112 with x112 | x112
       ·conv=>arg 3; whnf
        refine Zbs rfl ?_
        conv=>arg 3; whnf
        refine Zan rfl ?_
        conv=>arg 3; whnf
        refine Ze rfl ?_ ?_
        ·conv=>arg 3; whnf
         refine Ze rfl ?_ ?_
         ·conv=>arg 3; whnf
          refine Zd (Za t0 t1 t2 t3 s0.1 x112.1 s0.2.2.1 x112.2 m1_0 m1_1 m1_2 m1_3 m1_4 m1_5) (hrc t0 t1 t2 t3 s0.1 x112.1 s0.2.2.1 x112.2 m1_0 m1_1 m1_2 m1_3 m1_4 m1_5) fun x113 hx113=>?_
          conv=>arg 3; whnf
          exact Zf (ih _)
         ·conv=>arg 3; whnf
          refine Zd (Za t0 t1 t2 t3 s0.1 x112.1 s0.2.2.1 x112.2 m1_0 m1_1 m1_2 m1_3 m1_4 m1_5) (hrc t0 t1 t2 t3 s0.1 x112.1 s0.2.2.1 x112.2 m1_0 m1_1 m1_2 m1_3 m1_4 m1_5) fun x114 hx114=>?_
          conv=>arg 3; whnf
          exact Zf (ih _)
        ·conv=>arg 3; whnf
         refine Ze rfl ?_ ?_
         ·conv=>arg 3; whnf
          refine Zd (Za t0 t1 t2 t3 (w64 (x112.1+1)) s0.2.1 s0.2.2.1 x112.2 m1_0 m1_1 m1_2 m1_3 m1_4 m1_5) (hrc t0 t1 t2 t3 (w64 (x112.1+1)) s0.2.1 s0.2.2.1 x112.2 m1_0 m1_1 m1_2 m1_3 m1_4 m1_5) fun x115 hx115=>?_
          conv=>arg 3; whnf
          exact Zf (ih _)
         ·conv=>arg 3; whnf
          refine Zd (Za t0 t1 t2 t3 (w64 (x112.1+1)) s0.2.1 s0.2.2.1 x112.2 m1_0 m1_1 m1_2 m1_3 m1_4 m1_5) (hrc t0 t1 t2 t3 (w64 (x112.1+1)) s0.2.1 s0.2.2.1 x112.2 m1_0 m1_1 m1_2 m1_3 m1_4 m1_5) fun x116 hx116=>?_
          conv=>arg 3; whnf
          exact Zf (ih _)
       ·conv=>arg 3; whnf
        refine Zan rfl ?_
        conv=>arg 3; whnf
        refine Zan rfl ?_
        conv=>arg 3; whnf
        refine Ze rfl ?_ ?_
        ·conv=>arg 3; whnf
         refine Ze rfl ?_ ?_
         ·conv=>arg 3; whnf
          refine Zd (Za t0 t1 t2 t3 s0.1 x112.1 s0.2.2.1 x112.2 m1_0 m1_1 m1_2 m1_3 m1_4 m1_5) (hrc t0 t1 t2 t3 s0.1 x112.1 s0.2.2.1 x112.2 m1_0 m1_1 m1_2 m1_3 m1_4 m1_5) fun x117 hx117=>?_
          conv=>arg 3; whnf
          exact Zf (ih _)
         ·conv=>arg 3; whnf
          refine Zd (Za t0 t1 t2 t3 s0.1 x112.1 s0.2.2.1 x112.2 m1_0 m1_1 m1_2 m1_3 m1_4 m1_5) (hrc t0 t1 t2 t3 s0.1 x112.1 s0.2.2.1 x112.2 m1_0 m1_1 m1_2 m1_3 m1_4 m1_5) fun x118 hx118=>?_
          conv=>arg 3; whnf
          exact Zf (ih _)
        ·conv=>arg 3; whnf
         refine Ze rfl ?_ ?_
         ·conv=>arg 3; whnf
          refine Zd (Za t0 t1 t2 t3 (w64 (x112.1+1)) s0.2.1 s0.2.2.1 x112.2 m1_0 m1_1 m1_2 m1_3 m1_4 m1_5) (hrc t0 t1 t2 t3 (w64 (x112.1+1)) s0.2.1 s0.2.2.1 x112.2 m1_0 m1_1 m1_2 m1_3 m1_4 m1_5) fun x119 hx119=>?_
          conv=>arg 3; whnf
          exact Zf (ih _)
         ·conv=>arg 3; whnf
          refine Zd (Za t0 t1 t2 t3 (w64 (x112.1+1)) s0.2.1 s0.2.2.1 x112.2 m1_0 m1_1 m1_2 m1_3 m1_4 m1_5) (hrc t0 t1 t2 t3 (w64 (x112.1+1)) s0.2.1 s0.2.2.1 x112.2 m1_0 m1_1 m1_2 m1_3 m1_4 m1_5) fun x120 hx120=>?_
          conv=>arg 3; whnf
          exact Zf (ih _)
  ·refine Zsk ?_
   conv=>arg 3; whnf
   refine Ze rfl ?_ ?_
   ·conv=>arg 3; whnf
    refine Zd _ Z9 fun x1 hx1=>?_
    conv=>arg 3; whnf
    exact Zc rfl
   ·conv=>arg 3; whnf
    refine Ze rfl ?_ ?_
    ·conv=>arg 3; whnf
     refine Zd _ Zat fun x2 hx2=>?_
     conv=>arg 3; whnf
     exact Zc rfl
    ·conv=>arg 3; whnf
     refine Zd _ Zai fun x3 hx3=>?_
     conv=>arg 3; whnf
     refine Ze rfl ?_ ?_
     ·conv=>arg 3; whnf
      refine Zd _ Zah fun x4 hx4=>?_
      conv=>arg 3; whnf
      refine Zbs rfl ?_
      conv=>arg 3; whnf
      refine Zd _ Za8 fun x5 hx5=>?_
      clear hx5
      rcases x5 with x5 | x5
      ·conv=>arg 3; whnf
       exact Zc rfl
      ·conv=>arg 3; whnf
       refine Ze rfl ?_ ?_
       ·conv=>arg 3; whnf
        refine Zl rfl rfl fun x6 hx6=>?_
        conv=>arg 3; whnf
        refine Zg (ZA rfl hx6) ?_
        conv=>arg 3; whnf
        refine Zl rfl rfl fun x7 hx7=>?_
        conv=>arg 3; whnf
        refine Zg (ZA rfl hx7) ?_
        conv=>arg 3; whnf
        refine Zp _ ZF rfl fun x8 hx8=>?_
        conv=>arg 3; whnf
        refine Ze rfl ?_ ?_
        ·conv=>arg 3; whnf
         refine Zd _ Zm fun x9 hx9=>?_
         clear hx9
         rcases x9 with x9 | x9
         ·conv=>arg 3; whnf
          refine Zbs rfl ?_
          conv=>arg 3; whnf
          refine Zan rfl ?_
          conv=>arg 3; whnf
          refine Ze rfl ?_ ?_
          ·conv=>arg 3; whnf
           refine Ze rfl ?_ ?_
           ·conv=>arg 3; whnf
            refine Zd (Za t0 t1 t2 t3 s0.1 x9.1 s0.2.2.1 x9.2 m1_0 m1_1 m1_2 m1_3 m1_4 m1_5) (hrc t0 t1 t2 t3 s0.1 x9.1 s0.2.2.1 x9.2 m1_0 m1_1 m1_2 m1_3 m1_4 m1_5) fun x10 hx10=>?_
            conv=>arg 3; whnf
            exact Zf (ih _)
           ·conv=>arg 3; whnf
            refine Zd (Za t0 t1 t2 t3 s0.1 x9.1 s0.2.2.1 x9.2 m1_0 m1_1 m1_2 m1_3 m1_4 m1_5) (hrc t0 t1 t2 t3 s0.1 x9.1 s0.2.2.1 x9.2 m1_0 m1_1 m1_2 m1_3 m1_4 m1_5) fun x11 hx11=>?_
            conv=>arg 3; whnf
            exact Zf (ih _)
          ·conv=>arg 3; whnf
           refine Ze rfl ?_ ?_
           ·conv=>arg 3; whnf
            refine Zd (Za t0 t1 t2 t3 (w64 (x9.1+1)) s0.2.1 s0.2.2.1 x9.2 m1_0 m1_1 m1_2 m1_3 m1_4 m1_5) (hrc t0 t1 t2 t3 (w64 (x9.1+1)) s0.2.1 s0.2.2.1 x9.2 m1_0 m1_1 m1_2 m1_3 m1_4 m1_5) fun x12 hx12=>?_
            conv=>arg 3; whnf
            exact Zf (ih _)
           ·conv=>arg 3; whnf
            refine Zd (Za t0 t1 t2 t3 (w64 (x9.1+1)) s0.2.1 s0.2.2.1 x9.2 m1_0 m1_1 m1_2 m1_3 m1_4 m1_5) (hrc t0 t1 t2 t3 (w64 (x9.1+1)) s0.2.1 s0.2.2.1 x9.2 m1_0 m1_1 m1_2 m1_3 m1_4 m1_5) fun x13 hx13=>?_
            conv=>arg 3; whnf
            exact Zf (ih _)
         ·conv=>arg 3; whnf
          refine Zan rfl ?_
          conv=>arg 3; whnf
          refine Zan rfl ?_
          conv=>arg 3; whnf
          refine Ze rfl ?_ ?_
          ·conv=>arg 3; whnf
           refine Ze rfl ?_ ?_
           ·conv=>arg 3; whnf
            refine Zd (Za t0 t1 t2 t3 s0.1 x9.1 s0.2.2.1 x9.2 m1_0 m1_1 m1_2 m1_3 m1_4 m1_5) (hrc t0 t1 t2 t3 s0.1 x9.1 s0.2.2.1 x9.2 m1_0 m1_1 m1_2 m1_3 m1_4 m1_5) fun x14 hx14=>?_
            conv=>arg 3; whnf
            exact Zf (ih _)
           ·conv=>arg 3; whnf
            refine Zd (Za t0 t1 t2 t3 s0.1 x9.1 s0.2.2.1 x9.2 m1_0 m1_1 m1_2 m1_3 m1_4 m1_5) (hrc t0 t1 t2 t3 s0.1 x9.1 s0.2.2.1 x9.2 m1_0 m1_1 m1_2 m1_3 m1_4 m1_5) fun x15 hx15=>?_
            conv=>arg 3; whnf
            exact Zf (ih _)
          ·conv=>arg 3; whnf
           refine Ze rfl ?_ ?_
           ·conv=>arg 3; whnf
            refine Zd (Za t0 t1 t2 t3 (w64 (x9.1+1)) s0.2.1 s0.2.2.1 x9.2 m1_0 m1_1 m1_2 m1_3 m1_4 m1_5) (hrc t0 t1 t2 t3 (w64 (x9.1+1)) s0.2.1 s0.2.2.1 x9.2 m1_0 m1_1 m1_2 m1_3 m1_4 m1_5) fun x16 hx16=>?_
            conv=>arg 3; whnf
            exact Zf (ih _)
           ·conv=>arg 3; whnf
            refine Zd (Za t0 t1 t2 t3 (w64 (x9.1+1)) s0.2.1 s0.2.2.1 x9.2 m1_0 m1_1 m1_2 m1_3 m1_4 m1_5) (hrc t0 t1 t2 t3 (w64 (x9.1+1)) s0.2.1 s0.2.2.1 x9.2 m1_0 m1_1 m1_2 m1_3 m1_4 m1_5) fun x17 hx17=>?_
            conv=>arg 3; whnf
            exact Zf (ih _)
        ·conv=>arg 3; whnf
         refine Zd _ Zz fun x18 hx18=>?_
         conv=>arg 3; whnf
         exact Zf (ih _)
       ·conv=>arg 3; whnf
        refine Zd _ Zm fun x19 hx19=>?_
        clear hx19
        rcases x19 with x19 | x19
        ·conv=>arg 3; whnf
         refine Zbs rfl ?_
         conv=>arg 3; whnf
         refine Zan rfl ?_
         conv=>arg 3; whnf
         refine Ze rfl ?_ ?_
         ·conv=>arg 3; whnf
          refine Ze rfl ?_ ?_
          ·conv=>arg 3; whnf
           refine Zd (Za t0 t1 t2 t3 s0.1 x19.1 s0.2.2.1 x19.2 m1_0 m1_1 m1_2 m1_3 m1_4 m1_5) (hrc t0 t1 t2 t3 s0.1 x19.1 s0.2.2.1 x19.2 m1_0 m1_1 m1_2 m1_3 m1_4 m1_5) fun x20 hx20=>?_
           conv=>arg 3; whnf
           exact Zf (ih _)
          ·conv=>arg 3; whnf
           refine Zd (Za t0 t1 t2 t3 s0.1 x19.1 s0.2.2.1 x19.2 m1_0 m1_1 m1_2 m1_3 m1_4 m1_5) (hrc t0 t1 t2 t3 s0.1 x19.1 s0.2.2.1 x19.2 m1_0 m1_1 m1_2 m1_3 m1_4 m1_5) fun x21 hx21=>?_
           conv=>arg 3; whnf
           exact Zf (ih _)
         ·conv=>arg 3; whnf
          refine Ze rfl ?_ ?_
          ·conv=>arg 3; whnf
           refine Zd (Za t0 t1 t2 t3 (w64 (x19.1+1)) s0.2.1 s0.2.2.1 x19.2 m1_0 m1_1 m1_2 m1_3 m1_4 m1_5) (hrc t0 t1 t2 t3 (w64 (x19.1+1)) s0.2.1 s0.2.2.1 x19.2 m1_0 m1_1 m1_2 m1_3 m1_4 m1_5) fun x22 hx22=>?_
           conv=>arg 3; whnf
           exact Zf (ih _)
          ·conv=>arg 3; whnf
           refine Zd (Za t0 t1 t2 t3 (w64 (x19.1+1)) s0.2.1 s0.2.2.1 x19.2 m1_0 m1_1 m1_2 m1_3 m1_4 m1_5) (hrc t0 t1 t2 t3 (w64 (x19.1+1)) s0.2.1 s0.2.2.1 x19.2 m1_0 m1_1 m1_2 m1_3 m1_4 m1_5) fun x23 hx23=>?_
           conv=>arg 3; whnf
           exact Zf (ih _)
        ·conv=>arg 3; whnf
         refine Zan rfl ?_
         conv=>arg 3; whnf
         refine Zan rfl ?_
         conv=>arg 3; whnf
         refine Ze rfl ?_ ?_
         ·conv=>arg 3; whnf
          refine Ze rfl ?_ ?_
          ·conv=>arg 3; whnf
           refine Zd (Za t0 t1 t2 t3 s0.1 x19.1 s0.2.2.1 x19.2 m1_0 m1_1 m1_2 m1_3 m1_4 m1_5) (hrc t0 t1 t2 t3 s0.1 x19.1 s0.2.2.1 x19.2 m1_0 m1_1 m1_2 m1_3 m1_4 m1_5) fun x24 hx24=>?_
           conv=>arg 3; whnf
           exact Zf (ih _)
          ·conv=>arg 3; whnf
           refine Zd (Za t0 t1 t2 t3 s0.1 x19.1 s0.2.2.1 x19.2 m1_0 m1_1 m1_2 m1_3 m1_4 m1_5) (hrc t0 t1 t2 t3 s0.1 x19.1 s0.2.2.1 x19.2 m1_0 m1_1 m1_2 m1_3 m1_4 m1_5) fun x25 hx25=>?_
           conv=>arg 3; whnf
           exact Zf (ih _)
         ·conv=>arg 3; whnf
          refine Ze rfl ?_ ?_
          ·conv=>arg 3; whnf
           refine Zd (Za t0 t1 t2 t3 (w64 (x19.1+1)) s0.2.1 s0.2.2.1 x19.2 m1_0 m1_1 m1_2 m1_3 m1_4 m1_5) (hrc t0 t1 t2 t3 (w64 (x19.1+1)) s0.2.1 s0.2.2.1 x19.2 m1_0 m1_1 m1_2 m1_3 m1_4 m1_5) fun x26 hx26=>?_
           conv=>arg 3; whnf
           exact Zf (ih _)
          ·conv=>arg 3; whnf
           refine Zd (Za t0 t1 t2 t3 (w64 (x19.1+1)) s0.2.1 s0.2.2.1 x19.2 m1_0 m1_1 m1_2 m1_3 m1_4 m1_5) (hrc t0 t1 t2 t3 (w64 (x19.1+1)) s0.2.1 s0.2.2.1 x19.2 m1_0 m1_1 m1_2 m1_3 m1_4 m1_5) fun x27 hx27=>?_
           conv=>arg 3; whnf
           exact Zf (ih _)
     ·conv=>arg 3; whnf
      refine Ze rfl ?_ ?_
      ·conv=>arg 3; whnf
       refine Zd _ Za8 fun x28 hx28=>?_
       clear hx28
       rcases x28 with x28 | x28
       ·conv=>arg 3; whnf
        exact Zc rfl
       ·conv=>arg 3; whnf
        refine Ze rfl ?_ ?_
        ·conv=>arg 3; whnf
         refine Zl rfl rfl fun x29 hx29=>?_
         conv=>arg 3; whnf
         refine Zg (ZA rfl hx29) ?_
         conv=>arg 3; whnf
         refine Zl rfl rfl fun x30 hx30=>?_
         conv=>arg 3; whnf
         refine Zg (ZA rfl hx30) ?_
         conv=>arg 3; whnf
         refine Zp _ ZF rfl fun x31 hx31=>?_
         conv=>arg 3; whnf
         refine Ze rfl ?_ ?_
         ·conv=>arg 3; whnf
          refine Zd _ Zm fun x32 hx32=>?_
          clear hx32
          rcases x32 with x32 | x32
          ·conv=>arg 3; whnf
           refine Zbs rfl ?_
           conv=>arg 3; whnf
           refine Zan rfl ?_
           conv=>arg 3; whnf
           refine Ze rfl ?_ ?_
           ·conv=>arg 3; whnf
            refine Ze rfl ?_ ?_
            ·conv=>arg 3; whnf
             refine Zd (Za t0 t1 t2 t3 s0.1 x32.1 s0.2.2.1 x32.2 m1_0 m1_1 m1_2 m1_3 m1_4 m1_5) (hrc t0 t1 t2 t3 s0.1 x32.1 s0.2.2.1 x32.2 m1_0 m1_1 m1_2 m1_3 m1_4 m1_5) fun x33 hx33=>?_
             conv=>arg 3; whnf
             exact Zf (ih _)
            ·conv=>arg 3; whnf
             refine Zd (Za t0 t1 t2 t3 s0.1 x32.1 s0.2.2.1 x32.2 m1_0 m1_1 m1_2 m1_3 m1_4 m1_5) (hrc t0 t1 t2 t3 s0.1 x32.1 s0.2.2.1 x32.2 m1_0 m1_1 m1_2 m1_3 m1_4 m1_5) fun x34 hx34=>?_
             conv=>arg 3; whnf
             exact Zf (ih _)
           ·conv=>arg 3; whnf
            refine Ze rfl ?_ ?_
            ·conv=>arg 3; whnf
             refine Zd (Za t0 t1 t2 t3 (w64 (x32.1+1)) s0.2.1 s0.2.2.1 x32.2 m1_0 m1_1 m1_2 m1_3 m1_4 m1_5) (hrc t0 t1 t2 t3 (w64 (x32.1+1)) s0.2.1 s0.2.2.1 x32.2 m1_0 m1_1 m1_2 m1_3 m1_4 m1_5) fun x35 hx35=>?_
             conv=>arg 3; whnf
             exact Zf (ih _)
            ·conv=>arg 3; whnf
             refine Zd (Za t0 t1 t2 t3 (w64 (x32.1+1)) s0.2.1 s0.2.2.1 x32.2 m1_0 m1_1 m1_2 m1_3 m1_4 m1_5) (hrc t0 t1 t2 t3 (w64 (x32.1+1)) s0.2.1 s0.2.2.1 x32.2 m1_0 m1_1 m1_2 m1_3 m1_4 m1_5) fun x36 hx36=>?_
             conv=>arg 3; whnf
             exact Zf (ih _)
          ·conv=>arg 3; whnf
           refine Zan rfl ?_
           conv=>arg 3; whnf
           refine Zan rfl ?_
           conv=>arg 3; whnf
           refine Ze rfl ?_ ?_
           ·conv=>arg 3; whnf
            refine Ze rfl ?_ ?_
            ·conv=>arg 3; whnf
             refine Zd (Za t0 t1 t2 t3 s0.1 x32.1 s0.2.2.1 x32.2 m1_0 m1_1 m1_2 m1_3 m1_4 m1_5) (hrc t0 t1 t2 t3 s0.1 x32.1 s0.2.2.1 x32.2 m1_0 m1_1 m1_2 m1_3 m1_4 m1_5) fun x37 hx37=>?_
             conv=>arg 3; whnf
             exact Zf (ih _)
            ·conv=>arg 3; whnf
             refine Zd (Za t0 t1 t2 t3 s0.1 x32.1 s0.2.2.1 x32.2 m1_0 m1_1 m1_2 m1_3 m1_4 m1_5) (hrc t0 t1 t2 t3 s0.1 x32.1 s0.2.2.1 x32.2 m1_0 m1_1 m1_2 m1_3 m1_4 m1_5) fun x38 hx38=>?_
             conv=>arg 3; whnf
             exact Zf (ih _)
           ·conv=>arg 3; whnf
            refine Ze rfl ?_ ?_
            ·conv=>arg 3; whnf
             refine Zd (Za t0 t1 t2 t3 (w64 (x32.1+1)) s0.2.1 s0.2.2.1 x32.2 m1_0 m1_1 m1_2 m1_3 m1_4 m1_5) (hrc t0 t1 t2 t3 (w64 (x32.1+1)) s0.2.1 s0.2.2.1 x32.2 m1_0 m1_1 m1_2 m1_3 m1_4 m1_5) fun x39 hx39=>?_
             conv=>arg 3; whnf
             exact Zf (ih _)
            ·conv=>arg 3; whnf
             refine Zd (Za t0 t1 t2 t3 (w64 (x32.1+1)) s0.2.1 s0.2.2.1 x32.2 m1_0 m1_1 m1_2 m1_3 m1_4 m1_5) (hrc t0 t1 t2 t3 (w64 (x32.1+1)) s0.2.1 s0.2.2.1 x32.2 m1_0 m1_1 m1_2 m1_3 m1_4 m1_5) fun x40 hx40=>?_
             conv=>arg 3; whnf
             exact Zf (ih _)
         ·conv=>arg 3; whnf
          refine Zd _ Zz fun x41 hx41=>?_
          conv=>arg 3; whnf
          exact Zf (ih _)
        ·conv=>arg 3; whnf
         refine Zd _ Zm fun x42 hx42=>?_
         clear hx42
         rcases x42 with x42 | x42
         ·conv=>arg 3; whnf
          refine Zbs rfl ?_
          conv=>arg 3; whnf
          refine Zan rfl ?_
          conv=>arg 3; whnf
          refine Ze rfl ?_ ?_
          ·conv=>arg 3; whnf
           refine Ze rfl ?_ ?_
           ·conv=>arg 3; whnf
            refine Zd (Za t0 t1 t2 t3 s0.1 x42.1 s0.2.2.1 x42.2 m1_0 m1_1 m1_2 m1_3 m1_4 m1_5) (hrc t0 t1 t2 t3 s0.1 x42.1 s0.2.2.1 x42.2 m1_0 m1_1 m1_2 m1_3 m1_4 m1_5) fun x43 hx43=>?_
            conv=>arg 3; whnf
            exact Zf (ih _)
           ·conv=>arg 3; whnf
            refine Zd (Za t0 t1 t2 t3 s0.1 x42.1 s0.2.2.1 x42.2 m1_0 m1_1 m1_2 m1_3 m1_4 m1_5) (hrc t0 t1 t2 t3 s0.1 x42.1 s0.2.2.1 x42.2 m1_0 m1_1 m1_2 m1_3 m1_4 m1_5) fun x44 hx44=>?_
            conv=>arg 3; whnf
            exact Zf (ih _)
          ·conv=>arg 3; whnf
           refine Ze rfl ?_ ?_
           ·conv=>arg 3; whnf
            refine Zd (Za t0 t1 t2 t3 (w64 (x42.1+1)) s0.2.1 s0.2.2.1 x42.2 m1_0 m1_1 m1_2 m1_3 m1_4 m1_5) (hrc t0 t1 t2 t3 (w64 (x42.1+1)) s0.2.1 s0.2.2.1 x42.2 m1_0 m1_1 m1_2 m1_3 m1_4 m1_5) fun x45 hx45=>?_
            conv=>arg 3; whnf
            exact Zf (ih _)
           ·conv=>arg 3; whnf
            refine Zd (Za t0 t1 t2 t3 (w64 (x42.1+1)) s0.2.1 s0.2.2.1 x42.2 m1_0 m1_1 m1_2 m1_3 m1_4 m1_5) (hrc t0 t1 t2 t3 (w64 (x42.1+1)) s0.2.1 s0.2.2.1 x42.2 m1_0 m1_1 m1_2 m1_3 m1_4 m1_5) fun x46 hx46=>?_
            conv=>arg 3; whnf
            exact Zf (ih _)
         ·conv=>arg 3; whnf
          refine Zan rfl ?_
          conv=>arg 3; whnf
          refine Zan rfl ?_
          conv=>arg 3; whnf
          refine Ze rfl ?_ ?_
          ·conv=>arg 3; whnf
           refine Ze rfl ?_ ?_
           ·conv=>arg 3; whnf
            refine Zd (Za t0 t1 t2 t3 s0.1 x42.1 s0.2.2.1 x42.2 m1_0 m1_1 m1_2 m1_3 m1_4 m1_5) (hrc t0 t1 t2 t3 s0.1 x42.1 s0.2.2.1 x42.2 m1_0 m1_1 m1_2 m1_3 m1_4 m1_5) fun x47 hx47=>?_
            conv=>arg 3; whnf
            exact Zf (ih _)
           ·conv=>arg 3; whnf
            refine Zd (Za t0 t1 t2 t3 s0.1 x42.1 s0.2.2.1 x42.2 m1_0 m1_1 m1_2 m1_3 m1_4 m1_5) (hrc t0 t1 t2 t3 s0.1 x42.1 s0.2.2.1 x42.2 m1_0 m1_1 m1_2 m1_3 m1_4 m1_5) fun x48 hx48=>?_
            conv=>arg 3; whnf
            exact Zf (ih _)
          ·conv=>arg 3; whnf
           refine Ze rfl ?_ ?_
           ·conv=>arg 3; whnf
            refine Zd (Za t0 t1 t2 t3 (w64 (x42.1+1)) s0.2.1 s0.2.2.1 x42.2 m1_0 m1_1 m1_2 m1_3 m1_4 m1_5) (hrc t0 t1 t2 t3 (w64 (x42.1+1)) s0.2.1 s0.2.2.1 x42.2 m1_0 m1_1 m1_2 m1_3 m1_4 m1_5) fun x49 hx49=>?_
            conv=>arg 3; whnf
            exact Zf (ih _)
           ·conv=>arg 3; whnf
            refine Zd (Za t0 t1 t2 t3 (w64 (x42.1+1)) s0.2.1 s0.2.2.1 x42.2 m1_0 m1_1 m1_2 m1_3 m1_4 m1_5) (hrc t0 t1 t2 t3 (w64 (x42.1+1)) s0.2.1 s0.2.2.1 x42.2 m1_0 m1_1 m1_2 m1_3 m1_4 m1_5) fun x50 hx50=>?_
            conv=>arg 3; whnf
            exact Zf (ih _)
      ·conv=>arg 3; whnf
       refine Ze rfl ?_ ?_
       ·conv=>arg 3; whnf
        refine Zl rfl rfl fun x51 hx51=>?_
        conv=>arg 3; whnf
        refine Zg (ZA rfl hx51) ?_
        conv=>arg 3; whnf
        refine Zl rfl rfl fun x52 hx52=>?_
        conv=>arg 3; whnf
        refine Zg (ZA rfl hx52) ?_
        conv=>arg 3; whnf
        refine Zp _ ZF rfl fun x53 hx53=>?_
        conv=>arg 3; whnf
        refine Ze rfl ?_ ?_
        ·conv=>arg 3; whnf
         refine Zd _ Zm fun x54 hx54=>?_
         clear hx54
         rcases x54 with x54 | x54
         ·conv=>arg 3; whnf
          refine Zbs rfl ?_
          conv=>arg 3; whnf
          refine Zan rfl ?_
          conv=>arg 3; whnf
          refine Ze rfl ?_ ?_
          ·conv=>arg 3; whnf
           refine Ze rfl ?_ ?_
           ·conv=>arg 3; whnf
            refine Zd (Za t0 t1 t2 t3 s0.1 x54.1 s0.2.2.1 x54.2 m1_0 m1_1 m1_2 m1_3 m1_4 m1_5) (hrc t0 t1 t2 t3 s0.1 x54.1 s0.2.2.1 x54.2 m1_0 m1_1 m1_2 m1_3 m1_4 m1_5) fun x55 hx55=>?_
            conv=>arg 3; whnf
            exact Zf (ih _)
           ·conv=>arg 3; whnf
            refine Zd (Za t0 t1 t2 t3 s0.1 x54.1 s0.2.2.1 x54.2 m1_0 m1_1 m1_2 m1_3 m1_4 m1_5) (hrc t0 t1 t2 t3 s0.1 x54.1 s0.2.2.1 x54.2 m1_0 m1_1 m1_2 m1_3 m1_4 m1_5) fun x56 hx56=>?_
            conv=>arg 3; whnf
            exact Zf (ih _)
          ·conv=>arg 3; whnf
           refine Ze rfl ?_ ?_
           ·conv=>arg 3; whnf
            refine Zd (Za t0 t1 t2 t3 (w64 (x54.1+1)) s0.2.1 s0.2.2.1 x54.2 m1_0 m1_1 m1_2 m1_3 m1_4 m1_5) (hrc t0 t1 t2 t3 (w64 (x54.1+1)) s0.2.1 s0.2.2.1 x54.2 m1_0 m1_1 m1_2 m1_3 m1_4 m1_5) fun x57 hx57=>?_
            conv=>arg 3; whnf
            exact Zf (ih _)
           ·conv=>arg 3; whnf
            refine Zd (Za t0 t1 t2 t3 (w64 (x54.1+1)) s0.2.1 s0.2.2.1 x54.2 m1_0 m1_1 m1_2 m1_3 m1_4 m1_5) (hrc t0 t1 t2 t3 (w64 (x54.1+1)) s0.2.1 s0.2.2.1 x54.2 m1_0 m1_1 m1_2 m1_3 m1_4 m1_5) fun x58 hx58=>?_
            conv=>arg 3; whnf
            exact Zf (ih _)
         ·conv=>arg 3; whnf
          refine Zan rfl ?_
          conv=>arg 3; whnf
          refine Zan rfl ?_
          conv=>arg 3; whnf
          refine Ze rfl ?_ ?_
          ·conv=>arg 3; whnf
           refine Ze rfl ?_ ?_
           ·conv=>arg 3; whnf
            refine Zd (Za t0 t1 t2 t3 s0.1 x54.1 s0.2.2.1 x54.2 m1_0 m1_1 m1_2 m1_3 m1_4 m1_5) (hrc t0 t1 t2 t3 s0.1 x54.1 s0.2.2.1 x54.2 m1_0 m1_1 m1_2 m1_3 m1_4 m1_5) fun x59 hx59=>?_
            conv=>arg 3; whnf
            exact Zf (ih _)
           ·conv=>arg 3; whnf
            refine Zd (Za t0 t1 t2 t3 s0.1 x54.1 s0.2.2.1 x54.2 m1_0 m1_1 m1_2 m1_3 m1_4 m1_5) (hrc t0 t1 t2 t3 s0.1 x54.1 s0.2.2.1 x54.2 m1_0 m1_1 m1_2 m1_3 m1_4 m1_5) fun x60 hx60=>?_
            conv=>arg 3; whnf
            exact Zf (ih _)
          ·conv=>arg 3; whnf
           refine Ze rfl ?_ ?_
           ·conv=>arg 3; whnf
            refine Zd (Za t0 t1 t2 t3 (w64 (x54.1+1)) s0.2.1 s0.2.2.1 x54.2 m1_0 m1_1 m1_2 m1_3 m1_4 m1_5) (hrc t0 t1 t2 t3 (w64 (x54.1+1)) s0.2.1 s0.2.2.1 x54.2 m1_0 m1_1 m1_2 m1_3 m1_4 m1_5) fun x61 hx61=>?_
            conv=>arg 3; whnf
            exact Zf (ih _)
           ·conv=>arg 3; whnf
            refine Zd (Za t0 t1 t2 t3 (w64 (x54.1+1)) s0.2.1 s0.2.2.1 x54.2 m1_0 m1_1 m1_2 m1_3 m1_4 m1_5) (hrc t0 t1 t2 t3 (w64 (x54.1+1)) s0.2.1 s0.2.2.1 x54.2 m1_0 m1_1 m1_2 m1_3 m1_4 m1_5) fun x62 hx62=>?_
            conv=>arg 3; whnf
            exact Zf (ih _)
        ·conv=>arg 3; whnf
         refine Zd _ Zz fun x63 hx63=>?_
         conv=>arg 3; whnf
         exact Zf (ih _)
       ·conv=>arg 3; whnf
        refine Zd _ Zm fun x64 hx64=>?_
        clear hx64
        rcases x64 with x64 | x64
        ·conv=>arg 3; whnf
         refine Zbs rfl ?_
         conv=>arg 3; whnf
         refine Zan rfl ?_
         conv=>arg 3; whnf
         refine Ze rfl ?_ ?_
         ·conv=>arg 3; whnf
          refine Ze rfl ?_ ?_
          ·conv=>arg 3; whnf
           refine Zd (Za t0 t1 t2 t3 s0.1 x64.1 s0.2.2.1 x64.2 m1_0 m1_1 m1_2 m1_3 m1_4 m1_5) (hrc t0 t1 t2 t3 s0.1 x64.1 s0.2.2.1 x64.2 m1_0 m1_1 m1_2 m1_3 m1_4 m1_5) fun x65 hx65=>?_
           conv=>arg 3; whnf
           exact Zf (ih _)
          ·conv=>arg 3; whnf
           refine Zd (Za t0 t1 t2 t3 s0.1 x64.1 s0.2.2.1 x64.2 m1_0 m1_1 m1_2 m1_3 m1_4 m1_5) (hrc t0 t1 t2 t3 s0.1 x64.1 s0.2.2.1 x64.2 m1_0 m1_1 m1_2 m1_3 m1_4 m1_5) fun x66 hx66=>?_
           conv=>arg 3; whnf
           exact Zf (ih _)
         ·conv=>arg 3; whnf
          refine Ze rfl ?_ ?_
          ·conv=>arg 3; whnf
           refine Zd (Za t0 t1 t2 t3 (w64 (x64.1+1)) s0.2.1 s0.2.2.1 x64.2 m1_0 m1_1 m1_2 m1_3 m1_4 m1_5) (hrc t0 t1 t2 t3 (w64 (x64.1+1)) s0.2.1 s0.2.2.1 x64.2 m1_0 m1_1 m1_2 m1_3 m1_4 m1_5) fun x67 hx67=>?_
           conv=>arg 3; whnf
           exact Zf (ih _)
          ·conv=>arg 3; whnf
           refine Zd (Za t0 t1 t2 t3 (w64 (x64.1+1)) s0.2.1 s0.2.2.1 x64.2 m1_0 m1_1 m1_2 m1_3 m1_4 m1_5) (hrc t0 t1 t2 t3 (w64 (x64.1+1)) s0.2.1 s0.2.2.1 x64.2 m1_0 m1_1 m1_2 m1_3 m1_4 m1_5) fun x68 hx68=>?_
           conv=>arg 3; whnf
           exact Zf (ih _)
        ·conv=>arg 3; whnf
         refine Zan rfl ?_
         conv=>arg 3; whnf
         refine Zan rfl ?_
         conv=>arg 3; whnf
         refine Ze rfl ?_ ?_
         ·conv=>arg 3; whnf
          refine Ze rfl ?_ ?_
          ·conv=>arg 3; whnf
           refine Zd (Za t0 t1 t2 t3 s0.1 x64.1 s0.2.2.1 x64.2 m1_0 m1_1 m1_2 m1_3 m1_4 m1_5) (hrc t0 t1 t2 t3 s0.1 x64.1 s0.2.2.1 x64.2 m1_0 m1_1 m1_2 m1_3 m1_4 m1_5) fun x69 hx69=>?_
           conv=>arg 3; whnf
           exact Zf (ih _)
          ·conv=>arg 3; whnf
           refine Zd (Za t0 t1 t2 t3 s0.1 x64.1 s0.2.2.1 x64.2 m1_0 m1_1 m1_2 m1_3 m1_4 m1_5) (hrc t0 t1 t2 t3 s0.1 x64.1 s0.2.2.1 x64.2 m1_0 m1_1 m1_2 m1_3 m1_4 m1_5) fun x70 hx70=>?_
           conv=>arg 3; whnf
           exact Zf (ih _)
         ·conv=>arg 3; whnf
          refine Ze rfl ?_ ?_
          ·conv=>arg 3; whnf
           refine Zd (Za t0 t1 t2 t3 (w64 (x64.1+1)) s0.2.1 s0.2.2.1 x64.2 m1_0 m1_1 m1_2 m1_3 m1_4 m1_5) (hrc t0 t1 t2 t3 (w64 (x64.1+1)) s0.2.1 s0.2.2.1 x64.2 m1_0 m1_1 m1_2 m1_3 m1_4 m1_5) fun x71 hx71=>?_
           conv=>arg 3; whnf
           exact Zf (ih _)
          ·conv=>arg 3; whnf
           refine Zd (Za t0 t1 t2 t3 (w64 (x64.1+1)) s0.2.1 s0.2.2.1 x64.2 m1_0 m1_1 m1_2 m1_3 m1_4 m1_5) (hrc t0 t1 t2 t3 (w64 (x64.1+1)) s0.2.1 s0.2.2.1 x64.2 m1_0 m1_1 m1_2 m1_3 m1_4 m1_5) fun x72 hx72=>?_
           conv=>arg 3; whnf
           exact Zf (ih _)
theorem Zd9 (rc:Int→Int→Int→(Int→Int→Option Int)→(List Int)→Option (List Int)) (hrc:∀(t0:Bool) (t1:Bool) (t2:Bool) (t3:Bool) (b:Int) (c:Int) (d:Int) (m0_0:(List Int)) (m1_0:Int) (m1_1:Int) (m1_2:(List ZX)) (m1_3:(List Zj)) (m1_4:(List Zi)) (m1_5:(List Zr)) (r:(List Int)),rc b c d (fun z0 z1=>Zu z0 z1 m1_4) m0_0=some r→evW ctx 138 [(.sl 0 1),(.d (Zb b)),(.d (Zb c)),(.d (Zb d)),(.fn 121 [(.ptr 1 0)])] [(.arr 1 (List.map Zb m0_0)),(.cells [(.d (Zb m1_0)),(.d (Zb m1_1)),(.d (D.list t0 (List.map ZZ m1_2))),(.d (D.list t1 (List.map Zt m1_3))),(.d (D.list t2 (List.map Zq m1_4))),(.d (D.list t3 (List.map Zw m1_5)))])]=some ((Za t0 t1 t2 t3 b c d m0_0 m1_0 m1_1 m1_2 m1_3 m1_4 m1_5) r)) (t0:Bool) (t1:Bool) (t2:Bool) (t3:Bool) (b:Int) (c:Int) (d:Int) (m0_0:(List Int)) (m1_0:Int) (m1_1:Int) (m1_2:(List ZX)) (m1_3:(List Zj)) (m1_4:(List Zi)) (m1_5:(List Zr)):∀r,(Zav rc b c d (fun z0 z1=>Zu z0 z1 m1_4) m0_0)=some r→evW ctx 138 [(.sl 0 1),(.d (Zb b)),(.d (Zb c)),(.d (Zb d)),(.fn 121 [(.ptr 1 0)])] [(.arr 1 (List.map Zb m0_0)),(.cells [(.d (Zb m1_0)),(.d (Zb m1_1)),(.d (D.list t0 (List.map ZZ m1_2))),(.d (D.list t1 (List.map Zt m1_3))),(.d (D.list t2 (List.map Zq m1_4))),(.d (D.list t3 (List.map Zw m1_5)))])]=some ((Za t0 t1 t2 t3 b c d m0_0 m1_0 m1_1 m1_2 m1_3 m1_4 m1_5) r):=by
 show ZM _ (fun r rhs=>rhs=some ((Za t0 t1 t2 t3 b c d m0_0 m1_0 m1_1 m1_2 m1_3 m1_4 m1_5) r)) _
 unfold Zav
 rw[ZfY ctx 138 ZvV _ _ rfl rfl]
 conv=>arg 3; whnf
 refine Zd _ (Zd6 hrc _) fun r219 hr219=>?_
 conv=>arg 3; whnf
 exact Zc rfl
theorem ZbT:∀(n:Nat) (t0:Bool) (t1:Bool) (t2:Bool) (t3:Bool) (b:Int) (c:Int) (d:Int) (m0_0:(List Int)) (m1_0:Int) (m1_1:Int) (m1_2:(List ZX)) (m1_3:(List Zj)) (m1_4:(List Zi)) (m1_5:(List Zr)) (r:(List Int)),ZW n b c d (fun z0 z1=>Zu z0 z1 m1_4) m0_0=some r→evW ctx 138 [(.sl 0 1),(.d (Zb b)),(.d (Zb c)),(.d (Zb d)),(.fn 121 [(.ptr 1 0)])] [(.arr 1 (List.map Zb m0_0)),(.cells [(.d (Zb m1_0)),(.d (Zb m1_1)),(.d (D.list t0 (List.map ZZ m1_2))),(.d (D.list t1 (List.map Zt m1_3))),(.d (D.list t2 (List.map Zq m1_4))),(.d (D.list t3 (List.map Zw m1_5)))])]=some ((Za t0 t1 t2 t3 b c d m0_0 m1_0 m1_1 m1_2 m1_3 m1_4 m1_5) r)
  | 0,t0,t1,t2,t3,b,c,d,m0_0,m1_0,m1_1,m1_2,m1_3,m1_4,m1_5,r,h=>by cases h
  | n+1,t0,t1,t2,t3,b,c,d,m0_0,m1_0,m1_1,m1_2,m1_3,m1_4,m1_5,r,h=>Zd9 (ZW n) (ZbT n) t0 t1 t2 t3 b c d m0_0 m1_0 m1_1 m1_2 m1_3 m1_4 m1_5 r h
theorem Zev {t0:Bool} {t1:Bool} {t2:Bool} {t3:Bool} {b:Int} {c:Int} {d:Int} {m0_0:(List Int)} {m1_0:Int} {m1_1:Int} {m1_2:(List ZX)} {m1_3:(List Zj)} {m1_4:(List Zi)} {m1_5:(List Zr)}:∀r,Zdq b c d (fun z0 z1=>Zu z0 z1 m1_4) m0_0=some r→evW ctx 138 [(.sl 0 1),(.d (Zb b)),(.d (Zb c)),(.d (Zb d)),(.fn 121 [(.ptr 1 0)])] [(.arr 1 (List.map Zb m0_0)),(.cells [(.d (Zb m1_0)),(.d (Zb m1_1)),(.d (D.list t0 (List.map ZZ m1_2))),(.d (D.list t1 (List.map Zt m1_3))),(.d (D.list t2 (List.map Zq m1_4))),(.d (D.list t3 (List.map Zw m1_5)))])]=some ((Za t0 t1 t2 t3 b c d m0_0 m1_0 m1_1 m1_2 m1_3 m1_4 m1_5) r):=fun r h=>by
  obtain⟨n,hn⟩:=Zyt h
  exact ZbT n t0 t1 t2 t3 b c d m0_0 m1_0 m1_1 m1_2 m1_3 m1_4 m1_5 r hn
def Zcc (t0:Bool) (t1:Bool) (t2:Bool) (t3:Bool) (m0_0:(List Int)) (m1_0:Int) (m1_1:Int) (m1_2:(List ZX)) (m1_3:(List Zj)) (m1_4:(List Zi)) (m1_5:(List Zr)):(List Int)→V×Zo
  | r=>((.d (D.tup [])),[(.arr 1 (List.map Zb r)),(.cells [(.d (Zb m1_0)),(.d (Zb m1_1)),(.d (D.list t0 (List.map ZZ m1_2))),(.d (D.list t1 (List.map Zt m1_3))),(.d (D.list t2 (List.map Zq m1_4))),(.d (D.list t3 (List.map Zw m1_5)))])])
theorem Zeu {t0:Bool} {t1:Bool} {t2:Bool} {t3:Bool} {m0_0:(List Int)} {m1_0:Int} {m1_1:Int} {m1_2:(List ZX)} {m1_3:(List Zj)} {m1_4:(List Zi)} {m1_5:(List Zr)}:∀r,(ZaL (fun z0 z1=>Zu z0 z1 m1_4) m0_0)=some r→evW ctx 120 [(.sl 0 1),(.fn 121 [(.ptr 1 0)])] [(.arr 1 (List.map Zb m0_0)),(.cells [(.d (Zb m1_0)),(.d (Zb m1_1)),(.d (D.list t0 (List.map ZZ m1_2))),(.d (D.list t1 (List.map Zt m1_3))),(.d (D.list t2 (List.map Zq m1_4))),(.d (D.list t3 (List.map Zw m1_5)))])]=some ((Zcc t0 t1 t2 t3 m0_0 m1_0 m1_1 m1_2 m1_3 m1_4 m1_5) r):=by
 show ZM _ (fun r rhs=>rhs=some ((Zcc t0 t1 t2 t3 m0_0 m1_0 m1_1 m1_2 m1_3 m1_4 m1_5) r)) _
 unfold ZaL
 rw[ZfY ctx 120 Zwu _ _ rfl rfl]
 conv=>arg 3; whnf
 refine Zn (ZD _ _) ?_
 conv=>arg 3; whnf
 refine Zp _ Zh0 rfl fun x0 hx0=>?_
 conv=>arg 3; whnf
 refine Zd _ Zev fun x1 hx1=>?_
 conv=>arg 3; whnf
 exact Zc rfl
def ZiK (r:(List Int)):D:=(D.list true (List.map Zb r))
def Zg5 (t0:Bool) (t1:Bool) (t2:Bool) (t3:Bool) (a:Zk) (b:Int):(List Int)→Ex×List V×Zo
  | r=>(.exit 0,[(.ptr 0 0),(.sl 1 1)],[(.cells (dV t0 t1 t2 t3 a)),(.arr 1 (List.map Zb r))])
theorem Zky {t0:Bool} {t1:Bool} {t2:Bool} {t3:Bool} {a:Zk} {b:Int}:∀(s1:Int×(List Int)) (r:(List Int)),lp (Zdc a b) s1=some r→lpW ctx 0 [1,2,5,12,13,14] [2,5] Zvr [(.d (Zb b)),(.ptr 0 0),(.sl 1 1),(.d (D.list t2 (List.map Zq a.futures))),(.d (Zb (a.futures.length:Int))),(.d (Zb s1.1))] [(.cells (dV t0 t1 t2 t3 a)),(.arr 1 (List.map Zb s1.2))]=some ((Zg5 t0 t1 t2 t3 a b) r):=by
 refine Zam (Zg5 t0 t1 t2 t3 a b) ?_
 intro s1 rcl ih
 show ZM _ _ (lpW _ _ _ _ _ _ _)
 unfold Zdc
 rw[Zao]
 conv=>arg 3; whnf
 refine Ze rfl ?_ ?_
 ·conv=>arg 3; whnf
  refine Zl rfl rfl fun x2 hx2=>?_
  conv=>arg 3; whnf
  refine Ze rfl ?_ ?_
  ·conv=>arg 3; whnf
   refine Zbs rfl ?_
   conv=>arg 3; whnf
   refine Ze (Zd5 Zb s1.2 1) ?_ ?_
   ·conv=>arg 3; whnf
    refine Zn (Zd4 Zb s1.2 [s1.1]) ?_
    conv=>arg 3; whnf
    exact Zf (ih _)
   ·exact Zac
  ·conv=>arg 3; whnf
   exact Zf (ih _)
 ·conv=>arg 3; whnf
  exact Zc rfl
theorem ZmN {t0:Bool} {t1:Bool} {t2:Bool} {t3:Bool} {a:Zk} {b:Int}:∀r,(Zc2 a b)=some r→evD ctx 86 [(.d (D.agg (dA t0 t1 t2 t3 a))),(.d (Zb b))]=some (ZiK r):=by
 show ZM _ (fun r rhs=>rhs=some (ZiK r)) _
 unfold Zc2
 rw[ZaV ctx 86 ZzP _ rfl rfl]
 conv=>arg 3; whnf
 refine Zp _ ZjO rfl fun x0 hx0=>?_
 conv=>arg 3; whnf
 refine Ze rfl ?_ ?_
 ·conv=>arg 3; whnf
  exact Zc rfl
 ·conv=>arg 3; whnf
  refine Zn (ZD _ _) ?_
  conv=>arg 3; whnf
  refine Zd _ (Zky _) fun r3 hr3=>?_
  conv=>arg 3; whnf
  refine Zd _ Zeu fun x4 hx4=>?_
  conv=>arg 3; whnf
  exact Zc rfl
def Zgi (b:Zh) (c:Int) (m1_0:(List Int)) (m2_0:(List Zj)) (m3_0:(List Zh)) (m4_0:(List (Int×Int))) (m5_0:(List (Int×Int))) (m6_0:(List (Zi×Int))):Unit→V×Zo
  | r=>((.d (Zb (w64 ((List.length (m3_0++[b]):Int)-1)))),[(.cells [(.sl 7 1),(.sl 2 2),(.sl 8 2),(.mp 4),(.mp 5),(.mp 6)]),.dead,(.arr 2 (List.map Zt m2_0)),.dead,(.mp (mpD Zb Zb m4_0)),(.mp (mpD Zb Zb m5_0)),(.mp (mpD Zq Zb m6_0)),(.arr 1 (List.map Zb (m1_0++[c]))),(.arr 2 (List.map Z8 (m3_0++[b])))])
theorem ZaN {b:Zh} {c:Int} {m1_0:(List Int)} {m2_0:(List Zj)} {m3_0:(List Zh)} {m4_0:(List (Int×Int))} {m5_0:(List (Int×Int))} {m6_0:(List (Zi×Int))}:∀r,(Zak b c m1_0 m3_0)=some r→evW ctx 44 [(.ptr 0 0),(.d (D.agg [(Zb b.part),(Zb b.step)])),(.d (Zb c))] [(.cells [(.sl 1 1),(.sl 2 2),(.sl 3 2),(.mp 4),(.mp 5),(.mp 6)]),(.arr 1 (List.map Zb m1_0)),(.arr 2 (List.map Zt m2_0)),(.arr 2 (List.map Z8 m3_0)),(.mp (mpD Zb Zb m4_0)),(.mp (mpD Zb Zb m5_0)),(.mp (mpD Zq Zb m6_0))]=some ((Zgi b c m1_0 m2_0 m3_0 m4_0 m5_0 m6_0) r):=by
 show ZM _ (fun r rhs=>rhs=some ((Zgi b c m1_0 m2_0 m3_0 m4_0 m5_0 m6_0) r)) _
 unfold Zak
 rw[ZfY ctx 44 ZzV _ _ rfl rfl]
 conv=>arg 3; whnf
 refine Zbs rfl ?_
 conv=>arg 3; whnf
 refine Ze (Zd5 Z8 m3_0 1) ?_ ?_
 ·conv=>arg 3; whnf
  refine Zn (Zd4 Z8 m3_0 [b]) ?_
  conv=>arg 3; whnf
  refine Zbs rfl ?_
  conv=>arg 3; whnf
  refine Ze (Zd5 Zb m1_0 1) ?_ ?_
  ·conv=>arg 3; whnf
   refine Zn (Zd4 Zb m1_0 [c]) ?_
   conv=>arg 3; whnf
   refine Zn (ZD _ _) ?_
   conv=>arg 3; whnf
   exact Zc rfl
  ·exact Zac
 ·exact Zac
end Go.Proofs.YtljgncbdagmeeaaDoor
