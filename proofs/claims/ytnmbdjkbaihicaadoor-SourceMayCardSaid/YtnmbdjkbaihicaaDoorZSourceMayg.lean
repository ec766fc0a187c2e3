/- SourceMay: part 7 of 7 of the proof: the row and the card of the law, out of what the evaluator says of it; without conditions. -/
import Derived.Test.YtnmbdjkbaihicaaDoorZSourceMayf
import Derived.KernelRfl
import Derived.Test.YtnmbdjkbaihicaaDoorRows
import Derived.Test.YtnmbdjkbaihicaaDoorCards
import Derived.Test.YtnmbdjkbaihicaaDoorTie
import Derived.WalkKit
import Derived.ProofKit
import Derived.OpenShut
import Derived.ShutString
import Derived.ChangeOld
import Derived.Below
import Derived.SizedLaws
import Derived.Handed
import Derived.LaidMore
import Derived.Stop.Joined
import Derived.ChangeShapes
import Derived.Carry
import Derived.SevenTiedAt
set_option maxRecDepth 100000
set_option maxHeartbeats 40000000
namespace Go.Proofs.YtnmbdjkbaihicaaDoor
open Go Go.Proofs.YtnmbdjkbaihicaaDoorE
set_option linter.unusedVariables false
set_option linter.unusedSimpArgs false
def Za (t0 : Bool) (t1 : Bool) (t2 : Bool) (t3 : Bool) (b : Int) (c : Int) (d : Int) (m0_0 : (List Int)) (m1_0 : Int) (m1_1 : Int) (m1_2 : (List ZK)) (m1_3 : (List ZI)) (m1_4 : (List Zq)) (m1_5 : (List Zm)) : (List Int) → V × Zk
  | r => ((.d (D.tup [])), [(.arr 1 (List.map Zb r)), (.cells [(.d (Zb m1_0)), (.d (Zb m1_1)), (.d (D.list t0 (List.map ZV m1_2))), (.d (D.list t1 (List.map ZQ m1_3))), (.d (D.list t2 (List.map Zw m1_4))), (.d (D.list t3 (List.map Zr m1_5)))])])
def ZbJ (t0 : Bool) (t1 : Bool) (t2 : Bool) (t3 : Bool) (m1_0 : Int) (m1_1 : Int) (m1_2 : (List ZK)) (m1_3 : (List ZI)) (m1_4 : (List Zq)) (m1_5 : (List Zm)) (rc : Int → Int → Int → (Int → Int → Option Int) → (List Int) → Option (List Int)) : (List Int) → Ex × List V × Zk
  | r => (.ret, [], [(.arr 1 (List.map Zb r)), (.cells [(.d (Zb m1_0)), (.d (Zb m1_1)), (.d (D.list t0 (List.map ZV m1_2))), (.d (D.list t1 (List.map ZQ m1_3))), (.d (D.list t2 (List.map Zw m1_4))), (.d (D.list t3 (List.map Zr m1_5)))])])
theorem Zdj {t0 : Bool} {t1 : Bool} {t2 : Bool} {t3 : Bool} {m1_0 : Int} {m1_1 : Int} {m1_2 : (List ZK)} {m1_3 : (List ZI)} {m1_4 : (List Zq)} {m1_5 : (List Zm)} {rc : Int → Int → Int → (Int → Int → Option Int) → (List Int) → Option (List Int)} (hrc : ∀ (t0 : Bool) (t1 : Bool) (t2 : Bool) (t3 : Bool) (b : Int) (c : Int) (d : Int) (m0_0 : (List Int)) (m1_0 : Int) (m1_1 : Int) (m1_2 : (List ZK)) (m1_3 : (List ZI)) (m1_4 : (List Zq)) (m1_5 : (List Zm)) (r : (List Int)), rc b c d (fun z0 z1 => Zp z0 z1 m1_4) m0_0 = some r → evW ctx 124 [(.sl 0 1), (.d (Zb b)), (.d (Zb c)), (.d (Zb d)), (.fn 118 [(.ptr 1 0)])] [(.arr 1 (List.map Zb m0_0)), (.cells [(.d (Zb m1_0)), (.d (Zb m1_1)), (.d (D.list t0 (List.map ZV m1_2))), (.d (D.list t1 (List.map ZQ m1_3))), (.d (D.list t2 (List.map Zw m1_4))), (.d (D.list t3 (List.map Zr m1_5)))])] = some ((Za t0 t1 t2 t3 b c d m0_0 m1_0 m1_1 m1_2 m1_3 m1_4 m1_5) r)) : ∀ (s0 : Int × Int × Int × Bool × Bool × (List Int)) (r : (List Int)), lp (ZJ (fun z0 z1 => Zp z0 z1 m1_4) rc) s0 = some r → lpW ctx 2 [0, 1, 2, 3, 4, 10, 11] [] Zqa [(.sl 0 1), (.d (Zb s0.1)), (.d (Zb s0.2.1)), (.d (Zb s0.2.2.1)), (.fn 118 [(.ptr 1 0)]), (.d (D.bool s0.2.2.2.1)), (.d (D.bool s0.2.2.2.2.1))] [(.arr 1 (List.map Zb s0.2.2.2.2.2)), (.cells [(.d (Zb m1_0)), (.d (Zb m1_1)), (.d (D.list t0 (List.map ZV m1_2))), (.d (D.list t1 (List.map ZQ m1_3))), (.d (D.list t2 (List.map Zw m1_4))), (.d (D.list t3 (List.map Zr m1_5)))])] = some ((ZbJ t0 t1 t2 t3 m1_0 m1_1 m1_2 m1_3 m1_4 m1_5 rc) r) := by
 refine ZaZ (ZbJ t0 t1 t2 t3 m1_0 m1_1 m1_2 m1_3 m1_4 m1_5 rc) ?_
 intro s0 rcl ih
 show ZR _ _ (lpW _ _ _ _ _ _ _)
 unfold ZJ
 rw [Za2]
 rcases hb : s0.2.2.2.1 with _ | _
 ·refine ZnT ?_
  rcases hb : s0.2.2.2.2.1 with _ | _
  ·refine ZnT ?_
   conv => arg 3; whnf
   refine Ze rfl ?_ ?_
   ·conv => arg 3; whnf
    refine Zc _ Z3 fun x170 hx170 => ?_
    conv => arg 3; whnf
    exact Zf rfl
   ·conv => arg 3; whnf
    refine Ze rfl ?_ ?_
    ·conv => arg 3; whnf
     refine Zc _ Zai fun x171 hx171 => ?_
     conv => arg 3; whnf
     exact Zf rfl
    ·conv => arg 3; whnf
     refine Zc _ Zbo fun x172 hx172 => ?_
     conv => arg 3; whnf
     refine Zc _ Zab fun x173 hx173 => ?_
     conv => arg 3; whnf
     refine Ze rfl ?_ ?_
     ·conv => arg 3; whnf
      refine Zc _ Z9 fun x174 hx174 => ?_
      conv => arg 3; whnf
      refine Ze rfl ?_ ?_
      ·conv => arg 3; whnf
       refine Zj rfl rfl fun x175 hx175 => ?_
       conv => arg 3; whnf
       refine Zg (Zx rfl hx175) ?_
       conv => arg 3; whnf
       refine Zj rfl rfl fun x176 hx176 => ?_
       conv => arg 3; whnf
       refine Zg (Zx rfl hx176) ?_
       conv => arg 3; whnf
       refine Zl _ ZA rfl fun x177 hx177 => ?_
       conv => arg 3; whnf
       refine Ze rfl ?_ ?_
       ·conv => arg 3; whnf
        refine Zc _ Zh fun x178 hx178 => ?_
        clear hx178
        rcases x178 with x178 | x178
        ·conv => arg 3; whnf
         refine Zcg rfl ?_
         conv => arg 3; whnf
         refine Zad rfl ?_
         conv => arg 3; whnf
         refine Ze rfl ?_ ?_
         ·conv => arg 3; whnf
          refine Ze rfl ?_ ?_
          ·conv => arg 3; whnf
           refine Zc (Za t0 t1 t2 t3 s0.1 x178.1 (w64 (s0.2.2.1 - 1)) x178.2 m1_0 m1_1 m1_2 m1_3 m1_4 m1_5) (hrc t0 t1 t2 t3 s0.1 x178.1 (w64 (s0.2.2.1 - 1)) x178.2 m1_0 m1_1 m1_2 m1_3 m1_4 m1_5) fun x179 hx179 => ?_
           conv => arg 3; whnf
           exact Zd (ih _)
          ·conv => arg 3; whnf
           refine Zc (Za t0 t1 t2 t3 s0.1 x178.1 (w64 (s0.2.2.1 - 1)) x178.2 m1_0 m1_1 m1_2 m1_3 m1_4 m1_5) (hrc t0 t1 t2 t3 s0.1 x178.1 (w64 (s0.2.2.1 - 1)) x178.2 m1_0 m1_1 m1_2 m1_3 m1_4 m1_5) fun x180 hx180 => ?_
           conv => arg 3; whnf
           exact Zd (ih _)
         ·conv => arg 3; whnf
          refine Ze rfl ?_ ?_
          ·conv => arg 3; whnf
           refine Zc (Za t0 t1 t2 t3 (w64 (x178.1 + 1)) s0.2.1 (w64 (s0.2.2.1 - 1)) x178.2 m1_0 m1_1 m1_2 m1_3 m1_4 m1_5) (hrc t0 t1 t2 t3 (w64 (x178.1 + 1)) s0.2.1 (w64 (s0.2.2.1 - 1)) x178.2 m1_0 m1_1 m1_2 m1_3 m1_4 m1_5) fun x181 hx181 => ?_
           conv => arg 3; whnf
           exact Zd (ih _)
          ·conv => arg 3; whnf
           refine Zc (Za t0 t1 t2 t3 (w64 (x178.1 + 1)) s0.2.1 (w64 (s0.2.2.1 - 1)) x178.2 m1_0 m1_1 m1_2 m1_3 m1_4 m1_5) (hrc t0 t1 t2 t3 (w64 (x178.1 + 1)) s0.2.1 (w64 (s0.2.2.1 - 1)) x178.2 m1_0 m1_1 m1_2 m1_3 m1_4 m1_5) fun x182 hx182 => ?_
           conv => arg 3; whnf
           exact Zd (ih _)
        ·conv => arg 3; whnf
         refine Zad rfl ?_
         conv => arg 3; whnf
         refine Zad rfl ?_
         conv => arg 3; whnf
         refine Ze rfl ?_ ?_
         ·conv => arg 3; whnf
          refine Ze rfl ?_ ?_
          ·conv => arg 3; whnf
           refine Zc (Za t0 t1 t2 t3 s0.1 x178.1 (w64 (s0.2.2.1 - 1)) x178.2 m1_0 m1_1 m1_2 m1_3 m1_4 m1_5) (hrc t0 t1 t2 t3 s0.1 x178.1 (w64 (s0.2.2.1 - 1)) x178.2 m1_0 m1_1 m1_2 m1_3 m1_4 m1_5) fun x183 hx183 => ?_
           conv => arg 3; whnf
           exact Zd (ih _)
          ·conv => arg 3; whnf
           refine Zc (Za t0 t1 t2 t3 s0.1 x178.1 (w64 (s0.2.2.1 - 1)) x178.2 m1_0 m1_1 m1_2 m1_3 m1_4 m1_5) (hrc t0 t1 t2 t3 s0.1 x178.1 (w64 (s0.2.2.1 - 1)) x178.2 m1_0 m1_1 m1_2 m1_3 m1_4 m1_5) fun x184 hx184 => ?_
           conv => arg 3; whnf
           exact Zd (ih _)
         ·conv => arg 3; whnf
          refine Ze rfl ?_ ?_
          ·conv => arg 3; whnf
           refine Zc (Za t0 t1 t2 t3 (w64 (x178.1 + 1)) s0.2.1 (w64 (s0.2.2.1 - 1)) x178.2 m1_0 m1_1 m1_2 m1_3 m1_4 m1_5) (hrc t0 t1 t2 t3 (w64 (x178.1 + 1)) s0.2.1 (w64 (s0.2.2.1 - 1)) x178.2 m1_0 m1_1 m1_2 m1_3 m1_4 m1_5) fun x185 hx185 => ?_
           conv => arg 3; whnf
           exact Zd (ih _)
          ·conv => arg 3; whnf
           refine Zc (Za t0 t1 t2 t3 (w64 (x178.1 + 1)) s0.2.1 (w64 (s0.2.2.1 - 1)) x178.2 m1_0 m1_1 m1_2 m1_3 m1_4 m1_5) (hrc t0 t1 t2 t3 (w64 (x178.1 + 1)) s0.2.1 (w64 (s0.2.2.1 - 1)) x178.2 m1_0 m1_1 m1_2 m1_3 m1_4 m1_5) fun x186 hx186 => ?_
           conv => arg 3; whnf
           exact Zd (ih _)
       ·conv => arg 3; whnf
        refine Zc _ Zy fun x187 hx187 => ?_
        conv => arg 3; whnf
        exact Zd (ih _)
      ·conv => arg 3; whnf
       refine Zc _ Zh fun x188 hx188 => ?_
       clear hx188
       rcases x188 with x188 | x188
       ·conv => arg 3; whnf
        refine Zcg rfl ?_
        conv => arg 3; whnf
        refine Zad rfl ?_
        conv => arg 3; whnf
        refine Ze rfl ?_ ?_
        ·conv => arg 3; whnf
         refine Ze rfl ?_ ?_
         ·conv => arg 3; whnf
          refine Zc (Za t0 t1 t2 t3 s0.1 x188.1 (w64 (s0.2.2.1 - 1)) x188.2 m1_0 m1_1 m1_2 m1_3 m1_4 m1_5) (hrc t0 t1 t2 t3 s0.1 x188.1 (w64 (s0.2.2.1 - 1)) x188.2 m1_0 m1_1 m1_2 m1_3 m1_4 m1_5) fun x189 hx189 => ?_
          conv => arg 3; whnf
          exact Zd (ih _)
         ·conv => arg 3; whnf
          refine Zc (Za t0 t1 t2 t3 s0.1 x188.1 (w64 (s0.2.2.1 - 1)) x188.2 m1_0 m1_1 m1_2 m1_3 m1_4 m1_5) (hrc t0 t1 t2 t3 s0.1 x188.1 (w64 (s0.2.2.1 - 1)) x188.2 m1_0 m1_1 m1_2 m1_3 m1_4 m1_5) fun x190 hx190 => ?_
          conv => arg 3; whnf
          exact Zd (ih _)
        ·conv => arg 3; whnf
         refine Ze rfl ?_ ?_
         ·conv => arg 3; whnf
          refine Zc (Za t0 t1 t2 t3 (w64 (x188.1 + 1)) s0.2.1 (w64 (s0.2.2.1 - 1)) x188.2 m1_0 m1_1 m1_2 m1_3 m1_4 m1_5) (hrc t0 t1 t2 t3 (w64 (x188.1 + 1)) s0.2.1 (w64 (s0.2.2.1 - 1)) x188.2 m1_0 m1_1 m1_2 m1_3 m1_4 m1_5) fun x191 hx191 => ?_
          conv => arg 3; whnf
          exact Zd (ih _)
         ·conv => arg 3; whnf
          refine Zc (Za t0 t1 t2 t3 (w64 (x188.1 + 1)) s0.2.1 (w64 (s0.2.2.1 - 1)) x188.2 m1_0 m1_1 m1_2 m1_3 m1_4 m1_5) (hrc t0 t1 t2 t3 (w64 (x188.1 + 1)) s0.2.1 (w64 (s0.2.2.1 - 1)) x188.2 m1_0 m1_1 m1_2 m1_3 m1_4 m1_5) fun x192 hx192 => ?_
          conv => arg 3; whnf
          exact Zd (ih _)
       ·conv => arg 3; whnf
        refine Zad rfl ?_
        conv => arg 3; whnf
        refine Zad rfl ?_
        conv => arg 3; whnf
        refine Ze rfl ?_ ?_
        ·conv => arg 3; whnf
         refine Ze rfl ?_ ?_
         ·conv => arg 3; whnf
          refine Zc (Za t0 t1 t2 t3 s0.1 x188.1 (w64 (s0.2.2.1 - 1)) x188.2 m1_0 m1_1 m1_2 m1_3 m1_4 m1_5) (hrc t0 t1 t2 t3 s0.1 x188.1 (w64 (s0.2.2.1 - 1)) x188.2 m1_0 m1_1 m1_2 m1_3 m1_4 m1_5) fun x193 hx193 => ?_
          conv => arg 3; whnf
          exact Zd (ih _)
         ·conv => arg 3; whnf
          refine Zc (Za t0 t1 t2 t3 s0.1 x188.1 (w64 (s0.2.2.1 - 1)) x188.2 m1_0 m1_1 m1_2 m1_3 m1_4 m1_5) (hrc t0 t1 t2 t3 s0.1 x188.1 (w64 (s0.2.2.1 - 1)) x188.2 m1_0 m1_1 m1_2 m1_3 m1_4 m1_5) fun x194 hx194 => ?_
          conv => arg 3; whnf
          exact Zd (ih _)
        ·conv => arg 3; whnf
         refine Ze rfl ?_ ?_
         ·conv => arg 3; whnf
          refine Zc (Za t0 t1 t2 t3 (w64 (x188.1 + 1)) s0.2.1 (w64 (s0.2.2.1 - 1)) x188.2 m1_0 m1_1 m1_2 m1_3 m1_4 m1_5) (hrc t0 t1 t2 t3 (w64 (x188.1 + 1)) s0.2.1 (w64 (s0.2.2.1 - 1)) x188.2 m1_0 m1_1 m1_2 m1_3 m1_4 m1_5) fun x195 hx195 => ?_
          conv => arg 3; whnf
          exact Zd (ih _)
         ·conv => arg 3; whnf
          refine Zc (Za t0 t1 t2 t3 (w64 (x188.1 + 1)) s0.2.1 (w64 (s0.2.2.1 - 1)) x188.2 m1_0 m1_1 m1_2 m1_3 m1_4 m1_5) (hrc t0 t1 t2 t3 (w64 (x188.1 + 1)) s0.2.1 (w64 (s0.2.2.1 - 1)) x188.2 m1_0 m1_1 m1_2 m1_3 m1_4 m1_5) fun x196 hx196 => ?_
          conv => arg 3; whnf
          exact Zd (ih _)
     ·conv => arg 3; whnf
      refine Ze rfl ?_ ?_
      ·conv => arg 3; whnf
       refine Zj rfl rfl fun x197 hx197 => ?_
       conv => arg 3; whnf
       refine Zg (Zx rfl hx197) ?_
       conv => arg 3; whnf
       refine Zj rfl rfl fun x198 hx198 => ?_
       conv => arg 3; whnf
       refine Zg (Zx rfl hx198) ?_
       conv => arg 3; whnf
       refine Zl _ ZA rfl fun x199 hx199 => ?_
       conv => arg 3; whnf
       refine Ze rfl ?_ ?_
       ·conv => arg 3; whnf
        refine Zc _ Zh fun x200 hx200 => ?_
        clear hx200
        rcases x200 with x200 | x200
        ·conv => arg 3; whnf
         refine Zcg rfl ?_
         conv => arg 3; whnf
         refine Zad rfl ?_
         conv => arg 3; whnf
         refine Ze rfl ?_ ?_
         ·conv => arg 3; whnf
          refine Ze rfl ?_ ?_
          ·conv => arg 3; whnf
           refine Zc (Za t0 t1 t2 t3 s0.1 x200.1 (w64 (s0.2.2.1 - 1)) x200.2 m1_0 m1_1 m1_2 m1_3 m1_4 m1_5) (hrc t0 t1 t2 t3 s0.1 x200.1 (w64 (s0.2.2.1 - 1)) x200.2 m1_0 m1_1 m1_2 m1_3 m1_4 m1_5) fun x201 hx201 => ?_
           conv => arg 3; whnf
           exact Zd (ih _)
          ·conv => arg 3; whnf
           refine Zc (Za t0 t1 t2 t3 s0.1 x200.1 (w64 (s0.2.2.1 - 1)) x200.2 m1_0 m1_1 m1_2 m1_3 m1_4 m1_5) (hrc t0 t1 t2 t3 s0.1 x200.1 (w64 (s0.2.2.1 - 1)) x200.2 m1_0 m1_1 m1_2 m1_3 m1_4 m1_5) fun x202 hx202 => ?_
           conv => arg 3; whnf
           exact Zd (ih _)
         ·conv => arg 3; whnf
          refine Ze rfl ?_ ?_
          ·conv => arg 3; whnf
           refine Zc (Za t0 t1 t2 t3 (w64 (x200.1 + 1)) s0.2.1 (w64 (s0.2.2.1 - 1)) x200.2 m1_0 m1_1 m1_2 m1_3 m1_4 m1_5) (hrc t0 t1 t2 t3 (w64 (x200.1 + 1)) s0.2.1 (w64 (s0.2.2.1 - 1)) x200.2 m1_0 m1_1 m1_2 m1_3 m1_4 m1_5) fun x203 hx203 => ?_
           conv => arg 3; whnf
           exact Zd (ih _)
          ·conv => arg 3; whnf
           refine Zc (Za t0 t1 t2 t3 (w64 (x200.1 + 1)) s0.2.1 (w64 (s0.2.2.1 - 1)) x200.2 m1_0 m1_1 m1_2 m1_3 m1_4 m1_5) (hrc t0 t1 t2 t3 (w64 (x200.1 + 1)) s0.2.1 (w64 (s0.2.2.1 - 1)) x200.2 m1_0 m1_1 m1_2 m1_3 m1_4 m1_5) fun x204 hx204 => ?_
           conv => arg 3; whnf
           exact Zd (ih _)
        ·conv => arg 3; whnf
         refine Zad rfl ?_
         conv => arg 3; whnf
         refine Zad rfl ?_
         conv => arg 3; whnf
         refine Ze rfl ?_ ?_
         ·conv => arg 3; whnf
          refine Ze rfl ?_ ?_
          ·conv => arg 3; whnf
           refine Zc (Za t0 t1 t2 t3 s0.1 x200.1 (w64 (s0.2.2.1 - 1)) x200.2 m1_0 m1_1 m1_2 m1_3 m1_4 m1_5) (hrc t0 t1 t2 t3 s0.1 x200.1 (w64 (s0.2.2.1 - 1)) x200.2 m1_0 m1_1 m1_2 m1_3 m1_4 m1_5) fun x205 hx205 => ?_
           conv => arg 3; whnf
           exact Zd (ih _)
          ·conv => arg 3; whnf
           refine Zc (Za t0 t1 t2 t3 s0.1 x200.1 (w64 (s0.2.2.1 - 1)) x200.2 m1_0 m1_1 m1_2 m1_3 m1_4 m1_5) (hrc t0 t1 t2 t3 s0.1 x200.1 (w64 (s0.2.2.1 - 1)) x200.2 m1_0 m1_1 m1_2 m1_3 m1_4 m1_5) fun x206 hx206 => ?_
           conv => arg 3; whnf
           exact Zd (ih _)
         ·conv => arg 3; whnf
          refine Ze rfl ?_ ?_
          ·conv => arg 3; whnf
           refine Zc (Za t0 t1 t2 t3 (w64 (x200.1 + 1)) s0.2.1 (w64 (s0.2.2.1 - 1)) x200.2 m1_0 m1_1 m1_2 m1_3 m1_4 m1_5) (hrc t0 t1 t2 t3 (w64 (x200.1 + 1)) s0.2.1 (w64 (s0.2.2.1 - 1)) x200.2 m1_0 m1_1 m1_2 m1_3 m1_4 m1_5) fun x207 hx207 => ?_
           conv => arg 3; whnf
           exact Zd (ih _)
          ·conv => arg 3; whnf
           refine Zc (Za t0 t1 t2 t3 (w64 (x200.1 + 1)) s0.2.1 (w64 (s0.2.2.1 - 1)) x200.2 m1_0 m1_1 m1_2 m1_3 m1_4 m1_5) (hrc t0 t1 t2 t3 (w64 (x200.1 + 1)) s0.2.1 (w64 (s0.2.2.1 - 1)) x200.2 m1_0 m1_1 m1_2 m1_3 m1_4 m1_5) fun x208 hx208 => ?_
           conv => arg 3; whnf
           exact Zd (ih _)
       ·conv => arg 3; whnf
        refine Zc _ Zy fun x209 hx209 => ?_
        conv => arg 3; whnf
        exact Zd (ih _)
      ·conv => arg 3; whnf
       refine Zc _ Zh fun x210 hx210 => ?_
       clear hx210
       rcases x210 with x210 | x210
       ·conv => arg 3; whnf
        refine Zcg rfl ?_
        conv => arg 3; whnf
        refine Zad rfl ?_
        conv => arg 3; whnf
        refine Ze rfl ?_ ?_
        ·conv => arg 3; whnf
         refine Ze rfl ?_ ?_
         ·conv => arg 3; whnf
          refine Zc (Za t0 t1 t2 t3 s0.1 x210.1 (w64 (s0.2.2.1 - 1)) x210.2 m1_0 m1_1 m1_2 m1_3 m1_4 m1_5) (hrc t0 t1 t2 t3 s0.1 x210.1 (w64 (s0.2.2.1 - 1)) x210.2 m1_0 m1_1 m1_2 m1_3 m1_4 m1_5) fun x211 hx211 => ?_
          conv => arg 3; whnf
          exact Zd (ih _)
         ·conv => arg 3; whnf
          refine Zc (Za t0 t1 t2 t3 s0.1 x210.1 (w64 (s0.2.2.1 - 1)) x210.2 m1_0 m1_1 m1_2 m1_3 m1_4 m1_5) (hrc t0 t1 t2 t3 s0.1 x210.1 (w64 (s0.2.2.1 - 1)) x210.2 m1_0 m1_1 m1_2 m1_3 m1_4 m1_5) fun x212 hx212 => ?_
          conv => arg 3; whnf
          exact Zd (ih _)
        ·conv => arg 3; whnf
         refine Ze rfl ?_ ?_
         ·conv => arg 3; whnf
          refine Zc (Za t0 t1 t2 t3 (w64 (x210.1 + 1)) s0.2.1 (w64 (s0.2.2.1 - 1)) x210.2 m1_0 m1_1 m1_2 m1_3 m1_4 m1_5) (hrc t0 t1 t2 t3 (w64 (x210.1 + 1)) s0.2.1 (w64 (s0.2.2.1 - 1)) x210.2 m1_0 m1_1 m1_2 m1_3 m1_4 m1_5) fun x213 hx213 => ?_
          conv => arg 3; whnf
          exact Zd (ih _)
         ·conv => arg 3; whnf
          refine Zc (Za t0 t1 t2 t3 (w64 (x210.1 + 1)) s0.2.1 (w64 (s0.2.2.1 - 1)) x210.2 m1_0 m1_1 m1_2 m1_3 m1_4 m1_5) (hrc t0 t1 t2 t3 (w64 (x210.1 + 1)) s0.2.1 (w64 (s0.2.2.1 - 1)) x210.2 m1_0 m1_1 m1_2 m1_3 m1_4 m1_5) fun x214 hx214 => ?_
          conv => arg 3; whnf
          exact Zd (ih _)
       ·conv => arg 3; whnf
        refine Zad rfl ?_
        conv => arg 3; whnf
        refine Zad rfl ?_
        conv => arg 3; whnf
        refine Ze rfl ?_ ?_
        ·conv => arg 3; whnf
         refine Ze rfl ?_ ?_
         ·conv => arg 3; whnf
          refine Zc (Za t0 t1 t2 t3 s0.1 x210.1 (w64 (s0.2.2.1 - 1)) x210.2 m1_0 m1_1 m1_2 m1_3 m1_4 m1_5) (hrc t0 t1 t2 t3 s0.1 x210.1 (w64 (s0.2.2.1 - 1)) x210.2 m1_0 m1_1 m1_2 m1_3 m1_4 m1_5) fun x215 hx215 => ?_
          conv => arg 3; whnf
          exact Zd (ih _)
         ·conv => arg 3; whnf
          refine Zc (Za t0 t1 t2 t3 s0.1 x210.1 (w64 (s0.2.2.1 - 1)) x210.2 m1_0 m1_1 m1_2 m1_3 m1_4 m1_5) (hrc t0 t1 t2 t3 s0.1 x210.1 (w64 (s0.2.2.1 - 1)) x210.2 m1_0 m1_1 m1_2 m1_3 m1_4 m1_5) fun x216 hx216 => ?_
          conv => arg 3; whnf
          exact Zd (ih _)
        ·conv => arg 3; whnf
         refine Ze rfl ?_ ?_
         ·conv => arg 3; whnf
          refine Zc (Za t0 t1 t2 t3 (w64 (x210.1 + 1)) s0.2.1 (w64 (s0.2.2.1 - 1)) x210.2 m1_0 m1_1 m1_2 m1_3 m1_4 m1_5) (hrc t0 t1 t2 t3 (w64 (x210.1 + 1)) s0.2.1 (w64 (s0.2.2.1 - 1)) x210.2 m1_0 m1_1 m1_2 m1_3 m1_4 m1_5) fun x217 hx217 => ?_
          conv => arg 3; whnf
          exact Zd (ih _)
         ·conv => arg 3; whnf
          refine Zc (Za t0 t1 t2 t3 (w64 (x210.1 + 1)) s0.2.1 (w64 (s0.2.2.1 - 1)) x210.2 m1_0 m1_1 m1_2 m1_3 m1_4 m1_5) (hrc t0 t1 t2 t3 (w64 (x210.1 + 1)) s0.2.1 (w64 (s0.2.2.1 - 1)) x210.2 m1_0 m1_1 m1_2 m1_3 m1_4 m1_5) fun x218 hx218 => ?_
          conv => arg 3; whnf
          exact Zd (ih _)
  ·refine ZnN ?_
   conv => arg 3; whnf
   refine Ze rfl ?_ ?_
   ·conv => arg 3; whnf
    refine Zc _ Z3 fun x121 hx121 => ?_
    conv => arg 3; whnf
    exact Zf rfl
   ·conv => arg 3; whnf
    refine Ze rfl ?_ ?_
    ·conv => arg 3; whnf
     refine Zc _ Zai fun x122 hx122 => ?_
     conv => arg 3; whnf
     exact Zf rfl
    ·conv => arg 3; whnf
     refine Zc _ Zbo fun x123 hx123 => ?_
     conv => arg 3; whnf
     refine Zc _ Zab fun x124 hx124 => ?_
     conv => arg 3; whnf
     refine Ze rfl ?_ ?_
     ·conv => arg 3; whnf
      refine Zc _ Z9 fun x125 hx125 => ?_
      conv => arg 3; whnf
      refine Ze rfl ?_ ?_
      ·conv => arg 3; whnf
       refine Zj rfl rfl fun x126 hx126 => ?_
       conv => arg 3; whnf
       refine Zg (Zx rfl hx126) ?_
       conv => arg 3; whnf
       refine Zj rfl rfl fun x127 hx127 => ?_
       conv => arg 3; whnf
       refine Zg (Zx rfl hx127) ?_
       conv => arg 3; whnf
       refine Zl _ ZA rfl fun x128 hx128 => ?_
       conv => arg 3; whnf
       refine Ze rfl ?_ ?_
       ·conv => arg 3; whnf
        refine Zc _ Zh fun x129 hx129 => ?_
        clear hx129
        rcases x129 with x129 | x129
        ·conv => arg 3; whnf
         refine Zcg rfl ?_
         conv => arg 3; whnf
         refine Zad rfl ?_
         conv => arg 3; whnf
         refine Ze rfl ?_ ?_
         ·conv => arg 3; whnf
          refine Ze rfl ?_ ?_
          ·conv => arg 3; whnf
           refine Zc (Za t0 t1 t2 t3 s0.1 x129.1 (w64 (s0.2.2.1 - 1)) x129.2 m1_0 m1_1 m1_2 m1_3 m1_4 m1_5) (hrc t0 t1 t2 t3 s0.1 x129.1 (w64 (s0.2.2.1 - 1)) x129.2 m1_0 m1_1 m1_2 m1_3 m1_4 m1_5) fun x130 hx130 => ?_
           conv => arg 3; whnf
           exact Zd (ih _)
          ·conv => arg 3; whnf
           refine Zc (Za t0 t1 t2 t3 s0.1 x129.1 (w64 (s0.2.2.1 - 1)) x129.2 m1_0 m1_1 m1_2 m1_3 m1_4 m1_5) (hrc t0 t1 t2 t3 s0.1 x129.1 (w64 (s0.2.2.1 - 1)) x129.2 m1_0 m1_1 m1_2 m1_3 m1_4 m1_5) fun x131 hx131 => ?_
           conv => arg 3; whnf
           exact Zd (ih _)
         ·conv => arg 3; whnf
          refine Ze rfl ?_ ?_
          ·conv => arg 3; whnf
           refine Zc (Za t0 t1 t2 t3 (w64 (x129.1 + 1)) s0.2.1 (w64 (s0.2.2.1 - 1)) x129.2 m1_0 m1_1 m1_2 m1_3 m1_4 m1_5) (hrc t0 t1 t2 t3 (w64 (x129.1 + 1)) s0.2.1 (w64 (s0.2.2.1 - 1)) x129.2 m1_0 m1_1 m1_2 m1_3 m1_4 m1_5) fun x132 hx132 => ?_
           conv => arg 3; whnf
           exact Zd (ih _)
          ·conv => arg 3; whnf
           refine Zc (Za t0 t1 t2 t3 (w64 (x129.1 + 1)) s0.2.1 (w64 (s0.2.2.1 - 1)) x129.2 m1_0 m1_1 m1_2 m1_3 m1_4 m1_5) (hrc t0 t1 t2 t3 (w64 (x129.1 + 1)) s0.2.1 (w64 (s0.2.2.1 - 1)) x129.2 m1_0 m1_1 m1_2 m1_3 m1_4 m1_5) fun x133 hx133 => ?_
           conv => arg 3; whnf
           exact Zd (ih _)
        ·conv => arg 3; whnf
         refine Zad rfl ?_
         conv => arg 3; whnf
         refine Zad rfl ?_
         conv => arg 3; whnf
         refine Ze rfl ?_ ?_
         ·conv => arg 3; whnf
          refine Ze rfl ?_ ?_
          ·conv => arg 3; whnf
           refine Zc (Za t0 t1 t2 t3 s0.1 x129.1 (w64 (s0.2.2.1 - 1)) x129.2 m1_0 m1_1 m1_2 m1_3 m1_4 m1_5) (hrc t0 t1 t2 t3 s0.1 x129.1 (w64 (s0.2.2.1 - 1)) x129.2 m1_0 m1_1 m1_2 m1_3 m1_4 m1_5) fun x134 hx134 => ?_
           conv => arg 3; whnf
           exact Zd (ih _)
          ·conv => arg 3; whnf
           refine Zc (Za t0 t1 t2 t3 s0.1 x129.1 (w64 (s0.2.2.1 - 1)) x129.2 m1_0 m1_1 m1_2 m1_3 m1_4 m1_5) (hrc t0 t1 t2 t3 s0.1 x129.1 (w64 (s0.2.2.1 - 1)) x129.2 m1_0 m1_1 m1_2 m1_3 m1_4 m1_5) fun x135 hx135 => ?_
           conv => arg 3; whnf
           exact Zd (ih _)
         ·conv => arg 3; whnf
          refine Ze rfl ?_ ?_
          ·conv => arg 3; whnf
           refine Zc (Za t0 t1 t2 t3 (w64 (x129.1 + 1)) s0.2.1 (w64 (s0.2.2.1 - 1)) x129.2 m1_0 m1_1 m1_2 m1_3 m1_4 m1_5) (hrc t0 t1 t2 t3 (w64 (x129.1 + 1)) s0.2.1 (w64 (s0.2.2.1 - 1)) x129.2 m1_0 m1_1 m1_2 m1_3 m1_4 m1_5) fun x136 hx136 => ?_
           conv => arg 3; whnf
           exact Zd (ih _)
          ·conv => arg 3; whnf
           refine Zc (Za t0 t1 t2 t3 (w64 (x129.1 + 1)) s0.2.1 (w64 (s0.2.2.1 - 1)) x129.2 m1_0 m1_1 m1_2 m1_3 m1_4 m1_5) (hrc t0 t1 t2 t3 (w64 (x129.1 + 1)) s0.2.1 (w64 (s0.2.2.1 - 1)) x129.2 m1_0 m1_1 m1_2 m1_3 m1_4 m1_5) fun x137 hx137 => ?_
           conv => arg 3; whnf
           exact Zd (ih _)
       ·conv => arg 3; whnf
        refine Zc _ Zy fun x138 hx138 => ?_
        conv => arg 3; whnf
        exact Zd (ih _)
      ·conv => arg 3; whnf
       refine Zc _ Zh fun x139 hx139 => ?_
       clear hx139
       rcases x139 with x139 | x139
       ·conv => arg 3; whnf
        refine Zcg rfl ?_
        conv => arg 3; whnf
        refine Zad rfl ?_
        conv => arg 3; whnf
        refine Ze rfl ?_ ?_
        ·conv => arg 3; whnf
         refine Ze rfl ?_ ?_
         ·conv => arg 3; whnf
          refine Zc (Za t0 t1 t2 t3 s0.1 x139.1 (w64 (s0.2.2.1 - 1)) x139.2 m1_0 m1_1 m1_2 m1_3 m1_4 m1_5) (hrc t0 t1 t2 t3 s0.1 x139.1 (w64 (s0.2.2.1 - 1)) x139.2 m1_0 m1_1 m1_2 m1_3 m1_4 m1_5) fun x140 hx140 => ?_
          conv => arg 3; whnf
          exact Zd (ih _)
         ·conv => arg 3; whnf
          refine Zc (Za t0 t1 t2 t3 s0.1 x139.1 (w64 (s0.2.2.1 - 1)) x139.2 m1_0 m1_1 m1_2 m1_3 m1_4 m1_5) (hrc t0 t1 t2 t3 s0.1 x139.1 (w64 (s0.2.2.1 - 1)) x139.2 m1_0 m1_1 m1_2 m1_3 m1_4 m1_5) fun x141 hx141 => ?_
          conv => arg 3; whnf
          exact Zd (ih _)
        ·conv => arg 3; whnf
         refine Ze rfl ?_ ?_
         ·conv => arg 3; whnf
          refine Zc (Za t0 t1 t2 t3 (w64 (x139.1 + 1)) s0.2.1 (w64 (s0.2.2.1 - 1)) x139.2 m1_0 m1_1 m1_2 m1_3 m1_4 m1_5) (hrc t0 t1 t2 t3 (w64 (x139.1 + 1)) s0.2.1 (w64 (s0.2.2.1 - 1)) x139.2 m1_0 m1_1 m1_2 m1_3 m1_4 m1_5) fun x142 hx142 => ?_
          conv => arg 3; whnf
          exact Zd (ih _)
         ·conv => arg 3; whnf
          refine Zc (Za t0 t1 t2 t3 (w64 (x139.1 + 1)) s0.2.1 (w64 (s0.2.2.1 - 1)) x139.2 m1_0 m1_1 m1_2 m1_3 m1_4 m1_5) (hrc t0 t1 t2 t3 (w64 (x139.1 + 1)) s0.2.1 (w64 (s0.2.2.1 - 1)) x139.2 m1_0 m1_1 m1_2 m1_3 m1_4 m1_5) fun x143 hx143 => ?_
          conv => arg 3; whnf
          exact Zd (ih _)
       ·conv => arg 3; whnf
        refine Zad rfl ?_
        conv => arg 3; whnf
        refine Zad rfl ?_
        conv => arg 3; whnf
        refine Ze rfl ?_ ?_
        ·conv => arg 3; whnf
         refine Ze rfl ?_ ?_
         ·conv => arg 3; whnf
          refine Zc (Za t0 t1 t2 t3 s0.1 x139.1 (w64 (s0.2.2.1 - 1)) x139.2 m1_0 m1_1 m1_2 m1_3 m1_4 m1_5) (hrc t0 t1 t2 t3 s0.1 x139.1 (w64 (s0.2.2.1 - 1)) x139.2 m1_0 m1_1 m1_2 m1_3 m1_4 m1_5) fun x144 hx144 => ?_
          conv => arg 3; whnf
          exact Zd (ih _)
         ·conv => arg 3; whnf
          refine Zc (Za t0 t1 t2 t3 s0.1 x139.1 (w64 (s0.2.2.1 - 1)) x139.2 m1_0 m1_1 m1_2 m1_3 m1_4 m1_5) (hrc t0 t1 t2 t3 s0.1 x139.1 (w64 (s0.2.2.1 - 1)) x139.2 m1_0 m1_1 m1_2 m1_3 m1_4 m1_5) fun x145 hx145 => ?_
          conv => arg 3; whnf
          exact Zd (ih _)
        ·conv => arg 3; whnf
         refine Ze rfl ?_ ?_
         ·conv => arg 3; whnf
          refine Zc (Za t0 t1 t2 t3 (w64 (x139.1 + 1)) s0.2.1 (w64 (s0.2.2.1 - 1)) x139.2 m1_0 m1_1 m1_2 m1_3 m1_4 m1_5) (hrc t0 t1 t2 t3 (w64 (x139.1 + 1)) s0.2.1 (w64 (s0.2.2.1 - 1)) x139.2 m1_0 m1_1 m1_2 m1_3 m1_4 m1_5) fun x146 hx146 => ?_
          conv => arg 3; whnf
          exact Zd (ih _)
         ·conv => arg 3; whnf
          refine Zc (Za t0 t1 t2 t3 (w64 (x139.1 + 1)) s0.2.1 (w64 (s0.2.2.1 - 1)) x139.2 m1_0 m1_1 m1_2 m1_3 m1_4 m1_5) (hrc t0 t1 t2 t3 (w64 (x139.1 + 1)) s0.2.1 (w64 (s0.2.2.1 - 1)) x139.2 m1_0 m1_1 m1_2 m1_3 m1_4 m1_5) fun x147 hx147 => ?_
          conv => arg 3; whnf
          exact Zd (ih _)
     ·conv => arg 3; whnf
      refine Ze rfl ?_ ?_
      ·conv => arg 3; whnf
       refine Zj rfl rfl fun x148 hx148 => ?_
       conv => arg 3; whnf
       refine Zg (Zx rfl hx148) ?_
       conv => arg 3; whnf
       refine Zj rfl rfl fun x149 hx149 => ?_
       conv => arg 3; whnf
       refine Zg (Zx rfl hx149) ?_
       conv => arg 3; whnf
       refine Zl _ ZA rfl fun x150 hx150 => ?_
       conv => arg 3; whnf
       refine Ze rfl ?_ ?_
       ·conv => arg 3; whnf
        refine Zc _ Zh fun x151 hx151 => ?_
        clear hx151
        rcases x151 with x151 | x151
        ·conv => arg 3; whnf
         refine Zcg rfl ?_
         conv => arg 3; whnf
         refine Zad rfl ?_
         conv => arg 3; whnf
         refine Ze rfl ?_ ?_
         ·conv => arg 3; whnf
          refine Ze rfl ?_ ?_
          ·conv => arg 3; whnf
           refine Zc (Za t0 t1 t2 t3 s0.1 x151.1 (w64 (s0.2.2.1 - 1)) x151.2 m1_0 m1_1 m1_2 m1_3 m1_4 m1_5) (hrc t0 t1 t2 t3 s0.1 x151.1 (w64 (s0.2.2.1 - 1)) x151.2 m1_0 m1_1 m1_2 m1_3 m1_4 m1_5) fun x152 hx152 => ?_
           conv => arg 3; whnf
           exact Zd (ih _)
          ·conv => arg 3; whnf
           refine Zc (Za t0 t1 t2 t3 s0.1 x151.1 (w64 (s0.2.2.1 - 1)) x151.2 m1_0 m1_1 m1_2 m1_3 m1_4 m1_5) (hrc t0 t1 t2 t3 s0.1 x151.1 (w64 (s0.2.2.1 - 1)) x151.2 m1_0 m1_1 m1_2 m1_3 m1_4 m1_5) fun x153 hx153 => ?_
           conv => arg 3; whnf
           exact Zd (ih _)
         ·conv => arg 3; whnf
          refine Ze rfl ?_ ?_
          ·conv => arg 3; whnf
           refine Zc (Za t0 t1 t2 t3 (w64 (x151.1 + 1)) s0.2.1 (w64 (s0.2.2.1 - 1)) x151.2 m1_0 m1_1 m1_2 m1_3 m1_4 m1_5) (hrc t0 t1 t2 t3 (w64 (x151.1 + 1)) s0.2.1 (w64 (s0.2.2.1 - 1)) x151.2 m1_0 m1_1 m1_2 m1_3 m1_4 m1_5) fun x154 hx154 => ?_
           conv => arg 3; whnf
           exact Zd (ih _)
          ·conv => arg 3; whnf
           refine Zc (Za t0 t1 t2 t3 (w64 (x151.1 + 1)) s0.2.1 (w64 (s0.2.2.1 - 1)) x151.2 m1_0 m1_1 m1_2 m1_3 m1_4 m1_5) (hrc t0 t1 t2 t3 (w64 (x151.1 + 1)) s0.2.1 (w64 (s0.2.2.1 - 1)) x151.2 m1_0 m1_1 m1_2 m1_3 m1_4 m1_5) fun x155 hx155 => ?_
           conv => arg 3; whnf
           exact Zd (ih _)
        ·conv => arg 3; whnf
         refine Zad rfl ?_
         conv => arg 3; whnf
         refine Zad rfl ?_
         conv => arg 3; whnf
         refine Ze rfl ?_ ?_
         ·conv => arg 3; whnf
          refine Ze rfl ?_ ?_
          ·conv => arg 3; whnf
           refine Zc (Za t0 t1 t2 t3 s0.1 x151.1 (w64 (s0.2.2.1 - 1)) x151.2 m1_0 m1_1 m1_2 m1_3 m1_4 m1_5) (hrc t0 t1 t2 t3 s0.1 x151.1 (w64 (s0.2.2.1 - 1)) x151.2 m1_0 m1_1 m1_2 m1_3 m1_4 m1_5) fun x156 hx156 => ?_
           conv => arg 3; whnf
           exact Zd (ih _)
          ·conv => arg 3; whnf
           refine Zc (Za t0 t1 t2 t3 s0.1 x151.1 (w64 (s0.2.2.1 - 1)) x151.2 m1_0 m1_1 m1_2 m1_3 m1_4 m1_5) (hrc t0 t1 t2 t3 s0.1 x151.1 (w64 (s0.2.2.1 - 1)) x151.2 m1_0 m1_1 m1_2 m1_3 m1_4 m1_5) fun x157 hx157 => ?_
           conv => arg 3; whnf
           exact Zd (ih _)
         ·conv => arg 3; whnf
          refine Ze rfl ?_ ?_
          ·conv => arg 3; whnf
           refine Zc (Za t0 t1 t2 t3 (w64 (x151.1 + 1)) s0.2.1 (w64 (s0.2.2.1 - 1)) x151.2 m1_0 m1_1 m1_2 m1_3 m1_4 m1_5) (hrc t0 t1 t2 t3 (w64 (x151.1 + 1)) s0.2.1 (w64 (s0.2.2.1 - 1)) x151.2 m1_0 m1_1 m1_2 m1_3 m1_4 m1_5) fun x158 hx158 => ?_
           conv => arg 3; whnf
           exact Zd (ih _)
          ·conv => arg 3; whnf
           refine Zc (Za t0 t1 t2 t3 (w64 (x151.1 + 1)) s0.2.1 (w64 (s0.2.2.1 - 1)) x151.2 m1_0 m1_1 m1_2 m1_3 m1_4 m1_5) (hrc t0 t1 t2 t3 (w64 (x151.1 + 1)) s0.2.1 (w64 (s0.2.2.1 - 1)) x151.2 m1_0 m1_1 m1_2 m1_3 m1_4 m1_5) fun x159 hx159 => ?_
           conv => arg 3; whnf
           exact Zd (ih _)
       ·conv => arg 3; whnf
        refine Zc _ Zy fun x160 hx160 => ?_
        conv => arg 3; whnf
        exact Zd (ih _)
      ·conv => arg 3; whnf
       refine Zc _ Zh fun x161 hx161 => ?_
       clear hx161
       rcases x161 with x161 | x161
       ·conv => arg 3; whnf
        refine Zcg rfl ?_
        conv => arg 3; whnf
        refine Zad rfl ?_
        conv => arg 3; whnf
        refine Ze rfl ?_ ?_
        ·conv => arg 3; whnf
         refine Ze rfl ?_ ?_
         ·conv => arg 3; whnf
          refine Zc (Za t0 t1 t2 t3 s0.1 x161.1 (w64 (s0.2.2.1 - 1)) x161.2 m1_0 m1_1 m1_2 m1_3 m1_4 m1_5) (hrc t0 t1 t2 t3 s0.1 x161.1 (w64 (s0.2.2.1 - 1)) x161.2 m1_0 m1_1 m1_2 m1_3 m1_4 m1_5) fun x162 hx162 => ?_
          conv => arg 3; whnf
          exact Zd (ih _)
         ·conv => arg 3; whnf
          refine Zc (Za t0 t1 t2 t3 s0.1 x161.1 (w64 (s0.2.2.1 - 1)) x161.2 m1_0 m1_1 m1_2 m1_3 m1_4 m1_5) (hrc t0 t1 t2 t3 s0.1 x161.1 (w64 (s0.2.2.1 - 1)) x161.2 m1_0 m1_1 m1_2 m1_3 m1_4 m1_5) fun x163 hx163 => ?_
          conv => arg 3; whnf
          exact Zd (ih _)
        ·conv => arg 3; whnf
         refine Ze rfl ?_ ?_
         ·conv => arg 3; whnf
          refine Zc (Za t0 t1 t2 t3 (w64 (x161.1 + 1)) s0.2.1 (w64 (s0.2.2.1 - 1)) x161.2 m1_0 m1_1 m1_2 m1_3 m1_4 m1_5) (hrc t0 t1 t2 t3 (w64 (x161.1 + 1)) s0.2.1 (w64 (s0.2.2.1 - 1)) x161.2 m1_0 m1_1 m1_2 m1_3 m1_4 m1_5) fun x164 hx164 => ?_
          conv => arg 3; whnf
          exact Zd (ih _)
         ·conv => arg 3; whnf
          refine Zc (Za t0 t1 t2 t3 (w64 (x161.1 + 1)) s0.2.1 (w64 (s0.2.2.1 - 1)) x161.2 m1_0 m1_1 m1_2 m1_3 m1_4 m1_5) (hrc t0 t1 t2 t3 (w64 (x161.1 + 1)) s0.2.1 (w64 (s0.2.2.1 - 1)) x161.2 m1_0 m1_1 m1_2 m1_3 m1_4 m1_5) fun x165 hx165 => ?_
          conv => arg 3; whnf
          exact Zd (ih _)
       ·conv => arg 3; whnf
        refine Zad rfl ?_
        conv => arg 3; whnf
        refine Zad rfl ?_
        conv => arg 3; whnf
        refine Ze rfl ?_ ?_
        ·conv => arg 3; whnf
         refine Ze rfl ?_ ?_
         ·conv => arg 3; whnf
          refine Zc (Za t0 t1 t2 t3 s0.1 x161.1 (w64 (s0.2.2.1 - 1)) x161.2 m1_0 m1_1 m1_2 m1_3 m1_4 m1_5) (hrc t0 t1 t2 t3 s0.1 x161.1 (w64 (s0.2.2.1 - 1)) x161.2 m1_0 m1_1 m1_2 m1_3 m1_4 m1_5) fun x166 hx166 => ?_
          conv => arg 3; whnf
          exact Zd (ih _)
         ·conv => arg 3; whnf
          refine Zc (Za t0 t1 t2 t3 s0.1 x161.1 (w64 (s0.2.2.1 - 1)) x161.2 m1_0 m1_1 m1_2 m1_3 m1_4 m1_5) (hrc t0 t1 t2 t3 s0.1 x161.1 (w64 (s0.2.2.1 - 1)) x161.2 m1_0 m1_1 m1_2 m1_3 m1_4 m1_5) fun x167 hx167 => ?_
          conv => arg 3; whnf
          exact Zd (ih _)
        ·conv => arg 3; whnf
         refine Ze rfl ?_ ?_
         ·conv => arg 3; whnf
          refine Zc (Za t0 t1 t2 t3 (w64 (x161.1 + 1)) s0.2.1 (w64 (s0.2.2.1 - 1)) x161.2 m1_0 m1_1 m1_2 m1_3 m1_4 m1_5) (hrc t0 t1 t2 t3 (w64 (x161.1 + 1)) s0.2.1 (w64 (s0.2.2.1 - 1)) x161.2 m1_0 m1_1 m1_2 m1_3 m1_4 m1_5) fun x168 hx168 => ?_
          conv => arg 3; whnf
          exact Zd (ih _)
         ·conv => arg 3; whnf
          refine Zc (Za t0 t1 t2 t3 (w64 (x161.1 + 1)) s0.2.1 (w64 (s0.2.2.1 - 1)) x161.2 m1_0 m1_1 m1_2 m1_3 m1_4 m1_5) (hrc t0 t1 t2 t3 (w64 (x161.1 + 1)) s0.2.1 (w64 (s0.2.2.1 - 1)) x161.2 m1_0 m1_1 m1_2 m1_3 m1_4 m1_5) fun x169 hx169 => ?_
          conv => arg 3; whnf
          exact Zd (ih _)
 ·refine ZnN ?_
  rcases hb : s0.2.2.2.2.1 with _ | _
  ·refine ZnT ?_
   conv => arg 3; whnf
   refine Ze rfl ?_ ?_
   ·conv => arg 3; whnf
    refine Zc _ Z3 fun x73 hx73 => ?_
    conv => arg 3; whnf
    exact Zf rfl
   ·conv => arg 3; whnf
    refine Ze rfl ?_ ?_
    ·conv => arg 3; whnf
     refine Zc _ Zai fun x74 hx74 => ?_
     conv => arg 3; whnf
     exact Zf rfl
    ·conv => arg 3; whnf
     refine Zc _ Zab fun x75 hx75 => ?_
     conv => arg 3; whnf
     refine Ze rfl ?_ ?_
     ·conv => arg 3; whnf
      refine Zc _ Z9 fun x76 hx76 => ?_
      conv => arg 3; whnf
      refine Ze rfl ?_ ?_
      ·conv => arg 3; whnf
       refine Zj rfl rfl fun x77 hx77 => ?_
       conv => arg 3; whnf
       refine Zg (Zx rfl hx77) ?_
       conv => arg 3; whnf
       refine Zj rfl rfl fun x78 hx78 => ?_
       conv => arg 3; whnf
       refine Zg (Zx rfl hx78) ?_
       conv => arg 3; whnf
       refine Zl _ ZA rfl fun x79 hx79 => ?_
       conv => arg 3; whnf
       refine Ze rfl ?_ ?_
       ·conv => arg 3; whnf
        refine Zc _ Zh fun x80 hx80 => ?_
        clear hx80
        rcases x80 with x80 | x80
        ·conv => arg 3; whnf
         refine Zcg rfl ?_
         conv => arg 3; whnf
         refine Zad rfl ?_
         conv => arg 3; whnf
         refine Ze rfl ?_ ?_
         ·conv => arg 3; whnf
          refine Ze rfl ?_ ?_
          ·conv => arg 3; whnf
           refine Zc (Za t0 t1 t2 t3 s0.1 x80.1 s0.2.2.1 x80.2 m1_0 m1_1 m1_2 m1_3 m1_4 m1_5) (hrc t0 t1 t2 t3 s0.1 x80.1 s0.2.2.1 x80.2 m1_0 m1_1 m1_2 m1_3 m1_4 m1_5) fun x81 hx81 => ?_
           conv => arg 3; whnf
           exact Zd (ih _)
          ·conv => arg 3; whnf
           refine Zc (Za t0 t1 t2 t3 s0.1 x80.1 s0.2.2.1 x80.2 m1_0 m1_1 m1_2 m1_3 m1_4 m1_5) (hrc t0 t1 t2 t3 s0.1 x80.1 s0.2.2.1 x80.2 m1_0 m1_1 m1_2 m1_3 m1_4 m1_5) fun x82 hx82 => ?_
           conv => arg 3; whnf
           exact Zd (ih _)
         ·conv => arg 3; whnf
          refine Ze rfl ?_ ?_
          ·conv => arg 3; whnf
           refine Zc (Za t0 t1 t2 t3 (w64 (x80.1 + 1)) s0.2.1 s0.2.2.1 x80.2 m1_0 m1_1 m1_2 m1_3 m1_4 m1_5) (hrc t0 t1 t2 t3 (w64 (x80.1 + 1)) s0.2.1 s0.2.2.1 x80.2 m1_0 m1_1 m1_2 m1_3 m1_4 m1_5) fun x83 hx83 => ?_
           conv => arg 3; whnf
           exact Zd (ih _)
          ·conv => arg 3; whnf
           refine Zc (Za t0 t1 t2 t3 (w64 (x80.1 + 1)) s0.2.1 s0.2.2.1 x80.2 m1_0 m1_1 m1_2 m1_3 m1_4 m1_5) (hrc t0 t1 t2 t3 (w64 (x80.1 + 1)) s0.2.1 s0.2.2.1 x80.2 m1_0 m1_1 m1_2 m1_3 m1_4 m1_5) fun x84 hx84 => ?_
           conv => arg 3; whnf
           exact Zd (ih _)
        ·conv => arg 3; whnf
         refine Zad rfl ?_
         conv => arg 3; whnf
         refine Zad rfl ?_
         conv => arg 3; whnf
         refine Ze rfl ?_ ?_
         ·conv => arg 3; whnf
          refine Ze rfl ?_ ?_
          ·conv => arg 3; whnf
           refine Zc (Za t0 t1 t2 t3 s0.1 x80.1 s0.2.2.1 x80.2 m1_0 m1_1 m1_2 m1_3 m1_4 m1_5) (hrc t0 t1 t2 t3 s0.1 x80.1 s0.2.2.1 x80.2 m1_0 m1_1 m1_2 m1_3 m1_4 m1_5) fun x85 hx85 => ?_
           conv => arg 3; whnf
           exact Zd (ih _)
          ·conv => arg 3; whnf
           refine Zc (Za t0 t1 t2 t3 s0.1 x80.1 s0.2.2.1 x80.2 m1_0 m1_1 m1_2 m1_3 m1_4 m1_5) (hrc t0 t1 t2 t3 s0.1 x80.1 s0.2.2.1 x80.2 m1_0 m1_1 m1_2 m1_3 m1_4 m1_5) fun x86 hx86 => ?_
           conv => arg 3; whnf
           exact Zd (ih _)
         ·conv => arg 3; whnf
          refine Ze rfl ?_ ?_
          ·conv => arg 3; whnf
           refine Zc (Za t0 t1 t2 t3 (w64 (x80.1 + 1)) s0.2.1 s0.2.2.1 x80.2 m1_0 m1_1 m1_2 m1_3 m1_4 m1_5) (hrc t0 t1 t2 t3 (w64 (x80.1 + 1)) s0.2.1 s0.2.2.1 x80.2 m1_0 m1_1 m1_2 m1_3 m1_4 m1_5) fun x87 hx87 => ?_
           conv => arg 3; whnf
           exact Zd (ih _)
          ·conv => arg 3; whnf
           refine Zc (Za t0 t1 t2 t3 (w64 (x80.1 + 1)) s0.2.1 s0.2.2.1 x80.2 m1_0 m1_1 m1_2 m1_3 m1_4 m1_5) (hrc t0 t1 t2 t3 (w64 (x80.1 + 1)) s0.2.1 s0.2.2.1 x80.2 m1_0 m1_1 m1_2 m1_3 m1_4 m1_5) fun x88 hx88 => ?_
           conv => arg 3; whnf
           exact Zd (ih _)
       ·conv => arg 3; whnf
        refine Zc _ Zy fun x89 hx89 => ?_
        conv => arg 3; whnf
        exact Zd (ih _)
      ·conv => arg 3; whnf
       refine Zc _ Zh fun x90 hx90 => ?_
       clear hx90
       rcases x90 with x90 | x90
       ·conv => arg 3; whnf
        refine Zcg rfl ?_
        conv => arg 3; whnf
        refine Zad rfl ?_
        conv => arg 3; whnf
        refine Ze rfl ?_ ?_
        ·conv => arg 3; whnf
         refine Ze rfl ?_ ?_
         ·conv => arg 3; whnf
          refine Zc (Za t0 t1 t2 t3 s0.1 x90.1 s0.2.2.1 x90.2 m1_0 m1_1 m1_2 m1_3 m1_4 m1_5) (hrc t0 t1 t2 t3 s0.1 x90.1 s0.2.2.1 x90.2 m1_0 m1_1 m1_2 m1_3 m1_4 m1_5) fun x91 hx91 => ?_
          conv => arg 3; whnf
          exact Zd (ih _)
         ·conv => arg 3; whnf
          refine Zc (Za t0 t1 t2 t3 s0.1 x90.1 s0.2.2.1 x90.2 m1_0 m1_1 m1_2 m1_3 m1_4 m1_5) (hrc t0 t1 t2 t3 s0.1 x90.1 s0.2.2.1 x90.2 m1_0 m1_1 m1_2 m1_3 m1_4 m1_5) fun x92 hx92 => ?_
          conv => arg 3; whnf
          exact Zd (ih _)
        ·conv => arg 3; whnf
         refine Ze rfl ?_ ?_
         ·conv => arg 3; whnf
          refine Zc (Za t0 t1 t2 t3 (w64 (x90.1 + 1)) s0.2.1 s0.2.2.1 x90.2 m1_0 m1_1 m1_2 m1_3 m1_4 m1_5) (hrc t0 t1 t2 t3 (w64 (x90.1 + 1)) s0.2.1 s0.2.2.1 x90.2 m1_0 m1_1 m1_2 m1_3 m1_4 m1_5) fun x93 hx93 => ?_
          conv => arg 3; whnf
          exact Zd (ih _)
         ·conv => arg 3; whnf
          refine Zc (Za t0 t1 t2 t3 (w64 (x90.1 + 1)) s0.2.1 s0.2.2.1 x90.2 m1_0 m1_1 m1_2 m1_3 m1_4 m1_5) (hrc t0 t1 t2 t3 (w64 (x90.1 + 1)) s0.2.1 s0.2.2.1 x90.2 m1_0 m1_1 m1_2 m1_3 m1_4 m1_5) fun x94 hx94 => ?_
          conv => arg 3; whnf
          exact Zd (ih _)
       ·conv => arg 3; whnf
        refine Zad rfl ?_
        conv => arg 3; whnf
        refine Zad rfl ?_
        conv => arg 3; whnf
        refine Ze rfl ?_ ?_
        ·conv => arg 3; whnf
         refine Ze rfl ?_ ?_
         ·conv => arg 3; whnf
          refine Zc (Za t0 t1 t2 t3 s0.1 x90.1 s0.2.2.1 x90.2 m1_0 m1_1 m1_2 m1_3 m1_4 m1_5) (hrc t0 t1 t2 t3 s0.1 x90.1 s0.2.2.1 x90.2 m1_0 m1_1 m1_2 m1_3 m1_4 m1_5) fun x95 hx95 => ?_
          conv => arg 3; whnf
          exact Zd (ih _)
         ·conv => arg 3; whnf
          refine Zc (Za t0 t1 t2 t3 s0.1 x90.1 s0.2.2.1 x90.2 m1_0 m1_1 m1_2 m1_3 m1_4 m1_5) (hrc t0 t1 t2 t3 s0.1 x90.1 s0.2.2.1 x90.2 m1_0 m1_1 m1_2 m1_3 m1_4 m1_5) fun x96 hx96 => ?_
          conv => arg 3; whnf
          exact Zd (ih _)
        ·conv => arg 3; whnf
         refine Ze rfl ?_ ?_
         ·conv => arg 3; whnf
          refine Zc (Za t0 t1 t2 t3 (w64 (x90.1 + 1)) s0.2.1 s0.2.2.1 x90.2 m1_0 m1_1 m1_2 m1_3 m1_4 m1_5) (hrc t0 t1 t2 t3 (w64 (x90.1 + 1)) s0.2.1 s0.2.2.1 x90.2 m1_0 m1_1 m1_2 m1_3 m1_4 m1_5) fun x97 hx97 => ?_
          conv => arg 3; whnf
          exact Zd (ih _)
         ·conv => arg 3; whnf
          refine Zc (Za t0 t1 t2 t3 (w64 (x90.1 + 1)) s0.2.1 s0.2.2.1 x90.2 m1_0 m1_1 m1_2 m1_3 m1_4 m1_5) (hrc t0 t1 t2 t3 (w64 (x90.1 + 1)) s0.2.1 s0.2.2.1 x90.2 m1_0 m1_1 m1_2 m1_3 m1_4 m1_5) fun x98 hx98 => ?_
          conv => arg 3; whnf
          exact Zd (ih _)
     ·conv => arg 3; whnf
      refine Ze rfl ?_ ?_
      ·conv => arg 3; whnf
       refine Zj rfl rfl fun x99 hx99 => ?_
       conv => arg 3; whnf
       refine Zg (Zx rfl hx99) ?_
       conv => arg 3; whnf
       refine Zj rfl rfl fun x100 hx100 => ?_
       conv => arg 3; whnf
       refine Zg (Zx rfl hx100) ?_
       conv => arg 3; whnf
       refine Zl _ ZA rfl fun x101 hx101 => ?_
       conv => arg 3; whnf
       refine Ze rfl ?_ ?_
       ·conv => arg 3; whnf
        refine Zc _ Zh fun x102 hx102 => ?_
        clear hx102
        rcases x102 with x102 | x102
        ·conv => arg 3; whnf
         refine Zcg rfl ?_
         conv => arg 3; whnf
         refine Zad rfl ?_
         conv => arg 3; whnf
         refine Ze rfl ?_ ?_
         ·conv => arg 3; whnf
          refine Ze rfl ?_ ?_
          ·conv => arg 3; whnf
           refine Zc (Za t0 t1 t2 t3 s0.1 x102.1 s0.2.2.1 x102.2 m1_0 m1_1 m1_2 m1_3 m1_4 m1_5) (hrc t0 t1 t2 t3 s0.1 x102.1 s0.2.2.1 x102.2 m1_0 m1_1 m1_2 m1_3 m1_4 m1_5) fun x103 hx103 => ?_
           conv => arg 3; whnf
           exact Zd (ih _)
          ·conv => arg 3; whnf
           refine Zc (Za t0 t1 t2 t3 s0.1 x102.1 s0.2.2.1 x102.2 m1_0 m1_1 m1_2 m1_3 m1_4 m1_5) (hrc t0 t1 t2 t3 s0.1 x102.1 s0.2.2.1 x102.2 m1_0 m1_1 m1_2 m1_3 m1_4 m1_5) fun x104 hx104 => ?_
           conv => arg 3; whnf
           exact Zd (ih _)
         ·conv => arg 3; whnf
          refine Ze rfl ?_ ?_
          ·conv => arg 3; whnf
           refine Zc (Za t0 t1 t2 t3 (w64 (x102.1 + 1)) s0.2.1 s0.2.2.1 x102.2 m1_0 m1_1 m1_2 m1_3 m1_4 m1_5) (hrc t0 t1 t2 t3 (w64 (x102.1 + 1)) s0.2.1 s0.2.2.1 x102.2 m1_0 m1_1 m1_2 m1_3 m1_4 m1_5) fun x105 hx105 => ?_
           conv => arg 3; whnf
           exact Zd (ih _)
          ·conv => arg 3; whnf
           refine Zc (Za t0 t1 t2 t3 (w64 (x102.1 + 1)) s0.2.1 s0.2.2.1 x102.2 m1_0 m1_1 m1_2 m1_3 m1_4 m1_5) (hrc t0 t1 t2 t3 (w64 (x102.1 + 1)) s0.2.1 s0.2.2.1 x102.2 m1_0 m1_1 m1_2 m1_3 m1_4 m1_5) fun x106 hx106 => ?_
           conv => arg 3; whnf
           exact Zd (ih _)
        ·conv => arg 3; whnf
         refine Zad rfl ?_
         conv => arg 3; whnf
         refine Zad rfl ?_
         conv => arg 3; whnf
         refine Ze rfl ?_ ?_
         ·conv => arg 3; whnf
          refine Ze rfl ?_ ?_
          ·conv => arg 3; whnf
           refine Zc (Za t0 t1 t2 t3 s0.1 x102.1 s0.2.2.1 x102.2 m1_0 m1_1 m1_2 m1_3 m1_4 m1_5) (hrc t0 t1 t2 t3 s0.1 x102.1 s0.2.2.1 x102.2 m1_0 m1_1 m1_2 m1_3 m1_4 m1_5) fun x107 hx107 => ?_
           conv => arg 3; whnf
           exact Zd (ih _)
          ·conv => arg 3; whnf
           refine Zc (Za t0 t1 t2 t3 s0.1 x102.1 s0.2.2.1 x102.2 m1_0 m1_1 m1_2 m1_3 m1_4 m1_5) (hrc t0 t1 t2 t3 s0.1 x102.1 s0.2.2.1 x102.2 m1_0 m1_1 m1_2 m1_3 m1_4 m1_5) fun x108 hx108 => ?_
           conv => arg 3; whnf
           exact Zd (ih _)
         ·conv => arg 3; whnf
          refine Ze rfl ?_ ?_
          ·conv => arg 3; whnf
           refine Zc (Za t0 t1 t2 t3 (w64 (x102.1 + 1)) s0.2.1 s0.2.2.1 x102.2 m1_0 m1_1 m1_2 m1_3 m1_4 m1_5) (hrc t0 t1 t2 t3 (w64 (x102.1 + 1)) s0.2.1 s0.2.2.1 x102.2 m1_0 m1_1 m1_2 m1_3 m1_4 m1_5) fun x109 hx109 => ?_
           conv => arg 3; whnf
           exact Zd (ih _)
          ·conv => arg 3; whnf
           refine Zc (Za t0 t1 t2 t3 (w64 (x102.1 + 1)) s0.2.1 s0.2.2.1 x102.2 m1_0 m1_1 m1_2 m1_3 m1_4 m1_5) (hrc t0 t1 t2 t3 (w64 (x102.1 + 1)) s0.2.1 s0.2.2.1 x102.2 m1_0 m1_1 m1_2 m1_3 m1_4 m1_5) fun x110 hx110 => ?_
           conv => arg 3; whnf
           exact Zd (ih _)
       ·conv => arg 3; whnf
        refine Zc _ Zy fun x111 hx111 => ?_
        conv => arg 3; whnf
        exact Zd (ih _)
      ·conv => arg 3; whnf
       refine Zc _ Zh fun x112 hx112 => ?_
       clear hx112
       rcases x112 with x112 | x112
       ·conv => arg 3; whnf
        refine Zcg rfl ?_
        conv => arg 3; whnf
        refine Zad rfl ?_
        conv => arg 3; whnf
        refine Ze rfl ?_ ?_
        ·conv => arg 3; whnf
         refine Ze rfl ?_ ?_
         ·conv => arg 3; whnf
          refine Zc (Za t0 t1 t2 t3 s0.1 x112.1 s0.2.2.1 x112.2 m1_0 m1_1 m1_2 m1_3 m1_4 m1_5) (hrc t0 t1 t2 t3 s0.1 x112.1 s0.2.2.1 x112.2 m1_0 m1_1 m1_2 m1_3 m1_4 m1_5) fun x113 hx113 => ?_
          conv => arg 3; whnf
          exact Zd (ih _)
         ·conv => arg 3; whnf
          refine Zc (Za t0 t1 t2 t3 s0.1 x112.1 s0.2.2.1 x112.2 m1_0 m1_1 m1_2 m1_3 m1_4 m1_5) (hrc t0 t1 t2 t3 s0.1 x112.1 s0.2.2.1 x112.2 m1_0 m1_1 m1_2 m1_3 m1_4 m1_5) fun x114 hx114 => ?_
          conv => arg 3; whnf
          exact Zd (ih _)
        ·conv => arg 3; whnf
         refine Ze rfl ?_ ?_
         ·conv => arg 3; whnf
          refine Zc (Za t0 t1 t2 t3 (w64 (x112.1 + 1)) s0.2.1 s0.2.2.1 x112.2 m1_0 m1_1 m1_2 m1_3 m1_4 m1_5) (hrc t0 t1 t2 t3 (w64 (x112.1 + 1)) s0.2.1 s0.2.2.1 x112.2 m1_0 m1_1 m1_2 m1_3 m1_4 m1_5) fun x115 hx115 => ?_
          conv => arg 3; whnf
          exact Zd (ih _)
         ·conv => arg 3; whnf
          refine Zc (Za t0 t1 t2 t3 (w64 (x112.1 + 1)) s0.2.1 s0.2.2.1 x112.2 m1_0 m1_1 m1_2 m1_3 m1_4 m1_5) (hrc t0 t1 t2 t3 (w64 (x112.1 + 1)) s0.2.1 s0.2.2.1 x112.2 m1_0 m1_1 m1_2 m1_3 m1_4 m1_5) fun x116 hx116 => ?_
          conv => arg 3; whnf
          exact Zd (ih _)
       ·conv => arg 3; whnf
        refine Zad rfl ?_
        conv => arg 3; whnf
        refine Zad rfl ?_
        conv => arg 3; whnf
        refine Ze rfl ?_ ?_
        ·conv => arg 3; whnf
         refine Ze rfl ?_ ?_
         ·conv => arg 3; whnf
          refine Zc (Za t0 t1 t2 t3 s0.1 x112.1 s0.2.2.1 x112.2 m1_0 m1_1 m1_2 m1_3 m1_4 m1_5) (hrc t0 t1 t2 t3 s0.1 x112.1 s0.2.2.1 x112.2 m1_0 m1_1 m1_2 m1_3 m1_4 m1_5) fun x117 hx117 => ?_
          conv => arg 3; whnf
          exact Zd (ih _)
         ·conv => arg 3; whnf
          refine Zc (Za t0 t1 t2 t3 s0.1 x112.1 s0.2.2.1 x112.2 m1_0 m1_1 m1_2 m1_3 m1_4 m1_5) (hrc t0 t1 t2 t3 s0.1 x112.1 s0.2.2.1 x112.2 m1_0 m1_1 m1_2 m1_3 m1_4 m1_5) fun x118 hx118 => ?_
          conv => arg 3; whnf
          exact Zd (ih _)
        ·conv => arg 3; whnf
         refine Ze rfl ?_ ?_
         ·conv => arg 3; whnf
          refine Zc (Za t0 t1 t2 t3 (w64 (x112.1 + 1)) s0.2.1 s0.2.2.1 x112.2 m1_0 m1_1 m1_2 m1_3 m1_4 m1_5) (hrc t0 t1 t2 t3 (w64 (x112.1 + 1)) s0.2.1 s0.2.2.1 x112.2 m1_0 m1_1 m1_2 m1_3 m1_4 m1_5) fun x119 hx119 => ?_
          conv => arg 3; whnf
          exact Zd (ih _)
         ·conv => arg 3; whnf
          refine Zc (Za t0 t1 t2 t3 (w64 (x112.1 + 1)) s0.2.1 s0.2.2.1 x112.2 m1_0 m1_1 m1_2 m1_3 m1_4 m1_5) (hrc t0 t1 t2 t3 (w64 (x112.1 + 1)) s0.2.1 s0.2.2.1 x112.2 m1_0 m1_1 m1_2 m1_3 m1_4 m1_5) fun x120 hx120 => ?_
          conv => arg 3; whnf
          exact Zd (ih _)
  ·refine ZnN ?_
   conv => arg 3; whnf
   refine Ze rfl ?_ ?_
   ·conv => arg 3; whnf
    refine Zc _ Z3 fun x1 hx1 => ?_
    conv => arg 3; whnf
    exact Zf rfl
   ·conv => arg 3; whnf
    refine Ze rfl ?_ ?_
    ·conv => arg 3; whnf
     refine Zc _ Zai fun x2 hx2 => ?_
     conv => arg 3; whnf
     exact Zf rfl
    ·conv => arg 3; whnf
     refine Zc _ Zab fun x3 hx3 => ?_
     conv => arg 3; whnf
     refine Ze rfl ?_ ?_
     ·conv => arg 3; whnf
      refine Zc _ Z9 fun x4 hx4 => ?_
      conv => arg 3; whnf
      refine Zcg rfl ?_
      conv => arg 3; whnf
      refine Zc _ ZaU fun x5 hx5 => ?_
      clear hx5
      rcases x5 with x5 | x5
      ·conv => arg 3; whnf
       exact Zf rfl
      ·conv => arg 3; whnf
       refine Ze rfl ?_ ?_
       ·conv => arg 3; whnf
        refine Zj rfl rfl fun x6 hx6 => ?_
        conv => arg 3; whnf
        refine Zg (Zx rfl hx6) ?_
        conv => arg 3; whnf
        refine Zj rfl rfl fun x7 hx7 => ?_
        conv => arg 3; whnf
        refine Zg (Zx rfl hx7) ?_
        conv => arg 3; whnf
        refine Zl _ ZA rfl fun x8 hx8 => ?_
        conv => arg 3; whnf
        refine Ze rfl ?_ ?_
        ·conv => arg 3; whnf
         refine Zc _ Zh fun x9 hx9 => ?_
         clear hx9
         rcases x9 with x9 | x9
         ·conv => arg 3; whnf
          refine Zcg rfl ?_
          conv => arg 3; whnf
          refine Zad rfl ?_
          conv => arg 3; whnf
          refine Ze rfl ?_ ?_
          ·conv => arg 3; whnf
           refine Ze rfl ?_ ?_
           ·conv => arg 3; whnf
            refine Zc (Za t0 t1 t2 t3 s0.1 x9.1 s0.2.2.1 x9.2 m1_0 m1_1 m1_2 m1_3 m1_4 m1_5) (hrc t0 t1 t2 t3 s0.1 x9.1 s0.2.2.1 x9.2 m1_0 m1_1 m1_2 m1_3 m1_4 m1_5) fun x10 hx10 => ?_
            conv => arg 3; whnf
            exact Zd (ih _)
           ·conv => arg 3; whnf
            refine Zc (Za t0 t1 t2 t3 s0.1 x9.1 s0.2.2.1 x9.2 m1_0 m1_1 m1_2 m1_3 m1_4 m1_5) (hrc t0 t1 t2 t3 s0.1 x9.1 s0.2.2.1 x9.2 m1_0 m1_1 m1_2 m1_3 m1_4 m1_5) fun x11 hx11 => ?_
            conv => arg 3; whnf
            exact Zd (ih _)
          ·conv => arg 3; whnf
           refine Ze rfl ?_ ?_
           ·conv => arg 3; whnf
            refine Zc (Za t0 t1 t2 t3 (w64 (x9.1 + 1)) s0.2.1 s0.2.2.1 x9.2 m1_0 m1_1 m1_2 m1_3 m1_4 m1_5) (hrc t0 t1 t2 t3 (w64 (x9.1 + 1)) s0.2.1 s0.2.2.1 x9.2 m1_0 m1_1 m1_2 m1_3 m1_4 m1_5) fun x12 hx12 => ?_
            conv => arg 3; whnf
            exact Zd (ih _)
           ·conv => arg 3; whnf
            refine Zc (Za t0 t1 t2 t3 (w64 (x9.1 + 1)) s0.2.1 s0.2.2.1 x9.2 m1_0 m1_1 m1_2 m1_3 m1_4 m1_5) (hrc t0 t1 t2 t3 (w64 (x9.1 + 1)) s0.2.1 s0.2.2.1 x9.2 m1_0 m1_1 m1_2 m1_3 m1_4 m1_5) fun x13 hx13 => ?_
            conv => arg 3; whnf
            exact Zd (ih _)
         ·conv => arg 3; whnf
          refine Zad rfl ?_
          conv => arg 3; whnf
          refine Zad rfl ?_
          conv => arg 3; whnf
          refine Ze rfl ?_ ?_
          ·conv => arg 3; whnf
           refine Ze rfl ?_ ?_
           ·conv => arg 3; whnf
            refine Zc (Za t0 t1 t2 t3 s0.1 x9.1 s0.2.2.1 x9.2 m1_0 m1_1 m1_2 m1_3 m1_4 m1_5) (hrc t0 t1 t2 t3 s0.1 x9.1 s0.2.2.1 x9.2 m1_0 m1_1 m1_2 m1_3 m1_4 m1_5) fun x14 hx14 => ?_
            conv => arg 3; whnf
            exact Zd (ih _)
           ·conv => arg 3; whnf
            refine Zc (Za t0 t1 t2 t3 s0.1 x9.1 s0.2.2.1 x9.2 m1_0 m1_1 m1_2 m1_3 m1_4 m1_5) (hrc t0 t1 t2 t3 s0.1 x9.1 s0.2.2.1 x9.2 m1_0 m1_1 m1_2 m1_3 m1_4 m1_5) fun x15 hx15 => ?_
            conv => arg 3; whnf
            exact Zd (ih _)
          ·conv => arg 3; whnf
           refine Ze rfl ?_ ?_
           ·conv => arg 3; whnf
            refine Zc (Za t0 t1 t2 t3 (w64 (x9.1 + 1)) s0.2.1 s0.2.2.1 x9.2 m1_0 m1_1 m1_2 m1_3 m1_4 m1_5) (hrc t0 t1 t2 t3 (w64 (x9.1 + 1)) s0.2.1 s0.2.2.1 x9.2 m1_0 m1_1 m1_2 m1_3 m1_4 m1_5) fun x16 hx16 => ?_
            conv => arg 3; whnf
            exact Zd (ih _)
           ·conv => arg 3; whnf
            refine Zc (Za t0 t1 t2 t3 (w64 (x9.1 + 1)) s0.2.1 s0.2.2.1 x9.2 m1_0 m1_1 m1_2 m1_3 m1_4 m1_5) (hrc t0 t1 t2 t3 (w64 (x9.1 + 1)) s0.2.1 s0.2.2.1 x9.2 m1_0 m1_1 m1_2 m1_3 m1_4 m1_5) fun x17 hx17 => ?_
            conv => arg 3; whnf
            exact Zd (ih _)
        ·conv => arg 3; whnf
         refine Zc _ Zy fun x18 hx18 => ?_
         conv => arg 3; whnf
         exact Zd (ih _)
       ·conv => arg 3; whnf
        refine Zc _ Zh fun x19 hx19 => ?_
        clear hx19
        rcases x19 with x19 | x19
        ·conv => arg 3; whnf
         refine Zcg rfl ?_
         conv => arg 3; whnf
         refine Zad rfl ?_
         conv => arg 3; whnf
         refine Ze rfl ?_ ?_
         ·conv => arg 3; whnf
          refine Ze rfl ?_ ?_
          ·conv => arg 3; whnf
           refine Zc (Za t0 t1 t2 t3 s0.1 x19.1 s0.2.2.1 x19.2 m1_0 m1_1 m1_2 m1_3 m1_4 m1_5) (hrc t0 t1 t2 t3 s0.1 x19.1 s0.2.2.1 x19.2 m1_0 m1_1 m1_2 m1_3 m1_4 m1_5) fun x20 hx20 => ?_
           conv => arg 3; whnf
           exact Zd (ih _)
          ·conv => arg 3; whnf
           refine Zc (Za t0 t1 t2 t3 s0.1 x19.1 s0.2.2.1 x19.2 m1_0 m1_1 m1_2 m1_3 m1_4 m1_5) (hrc t0 t1 t2 t3 s0.1 x19.1 s0.2.2.1 x19.2 m1_0 m1_1 m1_2 m1_3 m1_4 m1_5) fun x21 hx21 => ?_
           conv => arg 3; whnf
           exact Zd (ih _)
         ·conv => arg 3; whnf
          refine Ze rfl ?_ ?_
          ·conv => arg 3; whnf
           refine Zc (Za t0 t1 t2 t3 (w64 (x19.1 + 1)) s0.2.1 s0.2.2.1 x19.2 m1_0 m1_1 m1_2 m1_3 m1_4 m1_5) (hrc t0 t1 t2 t3 (w64 (x19.1 + 1)) s0.2.1 s0.2.2.1 x19.2 m1_0 m1_1 m1_2 m1_3 m1_4 m1_5) fun x22 hx22 => ?_
           conv => arg 3; whnf
           exact Zd (ih _)
          ·conv => arg 3; whnf
           refine Zc (Za t0 t1 t2 t3 (w64 (x19.1 + 1)) s0.2.1 s0.2.2.1 x19.2 m1_0 m1_1 m1_2 m1_3 m1_4 m1_5) (hrc t0 t1 t2 t3 (w64 (x19.1 + 1)) s0.2.1 s0.2.2.1 x19.2 m1_0 m1_1 m1_2 m1_3 m1_4 m1_5) fun x23 hx23 => ?_
           conv => arg 3; whnf
           exact Zd (ih _)
        ·conv => arg 3; whnf
         refine Zad rfl ?_
         conv => arg 3; whnf
         refine Zad rfl ?_
         conv => arg 3; whnf
         refine Ze rfl ?_ ?_
         ·conv => arg 3; whnf
          refine Ze rfl ?_ ?_
          ·conv => arg 3; whnf
           refine Zc (Za t0 t1 t2 t3 s0.1 x19.1 s0.2.2.1 x19.2 m1_0 m1_1 m1_2 m1_3 m1_4 m1_5) (hrc t0 t1 t2 t3 s0.1 x19.1 s0.2.2.1 x19.2 m1_0 m1_1 m1_2 m1_3 m1_4 m1_5) fun x24 hx24 => ?_
           conv => arg 3; whnf
           exact Zd (ih _)
          ·conv => arg 3; whnf
           refine Zc (Za t0 t1 t2 t3 s0.1 x19.1 s0.2.2.1 x19.2 m1_0 m1_1 m1_2 m1_3 m1_4 m1_5) (hrc t0 t1 t2 t3 s0.1 x19.1 s0.2.2.1 x19.2 m1_0 m1_1 m1_2 m1_3 m1_4 m1_5) fun x25 hx25 => ?_
           conv => arg 3; whnf
           exact Zd (ih _)
         ·conv => arg 3; whnf
          refine Ze rfl ?_ ?_
          ·conv => arg 3; whnf
           refine Zc (Za t0 t1 t2 t3 (w64 (x19.1 + 1)) s0.2.1 s0.2.2.1 x19.2 m1_0 m1_1 m1_2 m1_3 m1_4 m1_5) (hrc t0 t1 t2 t3 (w64 (x19.1 + 1)) s0.2.1 s0.2.2.1 x19.2 m1_0 m1_1 m1_2 m1_3 m1_4 m1_5) fun x26 hx26 => ?_
           conv => arg 3; whnf
           exact Zd (ih _)
          ·conv => arg 3; whnf
           refine Zc (Za t0 t1 t2 t3 (w64 (x19.1 + 1)) s0.2.1 s0.2.2.1 x19.2 m1_0 m1_1 m1_2 m1_3 m1_4 m1_5) (hrc t0 t1 t2 t3 (w64 (x19.1 + 1)) s0.2.1 s0.2.2.1 x19.2 m1_0 m1_1 m1_2 m1_3 m1_4 m1_5) fun x27 hx27 => ?_
           conv => arg 3; whnf
           exact Zd (ih _)
     ·conv => arg 3; whnf
      refine Ze rfl ?_ ?_
      ·conv => arg 3; whnf
       refine Zc _ ZaU fun x28 hx28 => ?_
       clear hx28
       rcases x28 with x28 | x28
       ·conv => arg 3; whnf
        exact Zf rfl
       ·conv => arg 3; whnf
        refine Ze rfl ?_ ?_
        ·conv => arg 3; whnf
         refine Zj rfl rfl fun x29 hx29 => ?_
         conv => arg 3; whnf
         refine Zg (Zx rfl hx29) ?_
         conv => arg 3; whnf
         refine Zj rfl rfl fun x30 hx30 => ?_
         conv => arg 3; whnf
         refine Zg (Zx rfl hx30) ?_
         conv => arg 3; whnf
         refine Zl _ ZA rfl fun x31 hx31 => ?_
         conv => arg 3; whnf
         refine Ze rfl ?_ ?_
         ·conv => arg 3; whnf
          refine Zc _ Zh fun x32 hx32 => ?_
          clear hx32
          rcases x32 with x32 | x32
          ·conv => arg 3; whnf
           refine Zcg rfl ?_
           conv => arg 3; whnf
           refine Zad rfl ?_
           conv => arg 3; whnf
           refine Ze rfl ?_ ?_
           ·conv => arg 3; whnf
            refine Ze rfl ?_ ?_
            ·conv => arg 3; whnf
             refine Zc (Za t0 t1 t2 t3 s0.1 x32.1 s0.2.2.1 x32.2 m1_0 m1_1 m1_2 m1_3 m1_4 m1_5) (hrc t0 t1 t2 t3 s0.1 x32.1 s0.2.2.1 x32.2 m1_0 m1_1 m1_2 m1_3 m1_4 m1_5) fun x33 hx33 => ?_
             conv => arg 3; whnf
             exact Zd (ih _)
            ·conv => arg 3; whnf
             refine Zc (Za t0 t1 t2 t3 s0.1 x32.1 s0.2.2.1 x32.2 m1_0 m1_1 m1_2 m1_3 m1_4 m1_5) (hrc t0 t1 t2 t3 s0.1 x32.1 s0.2.2.1 x32.2 m1_0 m1_1 m1_2 m1_3 m1_4 m1_5) fun x34 hx34 => ?_
             conv => arg 3; whnf
             exact Zd (ih _)
           ·conv => arg 3; whnf
            refine Ze rfl ?_ ?_
            ·conv => arg 3; whnf
             refine Zc (Za t0 t1 t2 t3 (w64 (x32.1 + 1)) s0.2.1 s0.2.2.1 x32.2 m1_0 m1_1 m1_2 m1_3 m1_4 m1_5) (hrc t0 t1 t2 t3 (w64 (x32.1 + 1)) s0.2.1 s0.2.2.1 x32.2 m1_0 m1_1 m1_2 m1_3 m1_4 m1_5) fun x35 hx35 => ?_
             conv => arg 3; whnf
             exact Zd (ih _)
            ·conv => arg 3; whnf
             refine Zc (Za t0 t1 t2 t3 (w64 (x32.1 + 1)) s0.2.1 s0.2.2.1 x32.2 m1_0 m1_1 m1_2 m1_3 m1_4 m1_5) (hrc t0 t1 t2 t3 (w64 (x32.1 + 1)) s0.2.1 s0.2.2.1 x32.2 m1_0 m1_1 m1_2 m1_3 m1_4 m1_5) fun x36 hx36 => ?_
             conv => arg 3; whnf
             exact Zd (ih _)
          ·conv => arg 3; whnf
           refine Zad rfl ?_
           conv => arg 3; whnf
           refine Zad rfl ?_
           conv => arg 3; whnf
           refine Ze rfl ?_ ?_
           ·conv => arg 3; whnf
            refine Ze rfl ?_ ?_
            ·conv => arg 3; whnf
             refine Zc (Za t0 t1 t2 t3 s0.1 x32.1 s0.2.2.1 x32.2 m1_0 m1_1 m1_2 m1_3 m1_4 m1_5) (hrc t0 t1 t2 t3 s0.1 x32.1 s0.2.2.1 x32.2 m1_0 m1_1 m1_2 m1_3 m1_4 m1_5) fun x37 hx37 => ?_
             conv => arg 3; whnf
             exact Zd (ih _)
            ·conv => arg 3; whnf
             refine Zc (Za t0 t1 t2 t3 s0.1 x32.1 s0.2.2.1 x32.2 m1_0 m1_1 m1_2 m1_3 m1_4 m1_5) (hrc t0 t1 t2 t3 s0.1 x32.1 s0.2.2.1 x32.2 m1_0 m1_1 m1_2 m1_3 m1_4 m1_5) fun x38 hx38 => ?_
             conv => arg 3; whnf
             exact Zd (ih _)
           ·conv => arg 3; whnf
            refine Ze rfl ?_ ?_
            ·conv => arg 3; whnf
             refine Zc (Za t0 t1 t2 t3 (w64 (x32.1 + 1)) s0.2.1 s0.2.2.1 x32.2 m1_0 m1_1 m1_2 m1_3 m1_4 m1_5) (hrc t0 t1 t2 t3 (w64 (x32.1 + 1)) s0.2.1 s0.2.2.1 x32.2 m1_0 m1_1 m1_2 m1_3 m1_4 m1_5) fun x39 hx39 => ?_
             conv => arg 3; whnf
             exact Zd (ih _)
            ·conv => arg 3; whnf
             refine Zc (Za t0 t1 t2 t3 (w64 (x32.1 + 1)) s0.2.1 s0.2.2.1 x32.2 m1_0 m1_1 m1_2 m1_3 m1_4 m1_5) (hrc t0 t1 t2 t3 (w64 (x32.1 + 1)) s0.2.1 s0.2.2.1 x32.2 m1_0 m1_1 m1_2 m1_3 m1_4 m1_5) fun x40 hx40 => ?_
             conv => arg 3; whnf
             exact Zd (ih _)
         ·conv => arg 3; whnf
          refine Zc _ Zy fun x41 hx41 => ?_
          conv => arg 3; whnf
          exact Zd (ih _)
        ·conv => arg 3; whnf
         refine Zc _ Zh fun x42 hx42 => ?_
         clear hx42
         rcases x42 with x42 | x42
         ·conv => arg 3; whnf
          refine Zcg rfl ?_
          conv => arg 3; whnf
          refine Zad rfl ?_
          conv => arg 3; whnf
          refine Ze rfl ?_ ?_
          ·conv => arg 3; whnf
           refine Ze rfl ?_ ?_
           ·conv => arg 3; whnf
            refine Zc (Za t0 t1 t2 t3 s0.1 x42.1 s0.2.2.1 x42.2 m1_0 m1_1 m1_2 m1_3 m1_4 m1_5) (hrc t0 t1 t2 t3 s0.1 x42.1 s0.2.2.1 x42.2 m1_0 m1_1 m1_2 m1_3 m1_4 m1_5) fun x43 hx43 => ?_
            conv => arg 3; whnf
            exact Zd (ih _)
           ·conv => arg 3; whnf
            refine Zc (Za t0 t1 t2 t3 s0.1 x42.1 s0.2.2.1 x42.2 m1_0 m1_1 m1_2 m1_3 m1_4 m1_5) (hrc t0 t1 t2 t3 s0.1 x42.1 s0.2.2.1 x42.2 m1_0 m1_1 m1_2 m1_3 m1_4 m1_5) fun x44 hx44 => ?_
            conv => arg 3; whnf
            exact Zd (ih _)
          ·conv => arg 3; whnf
           refine Ze rfl ?_ ?_
           ·conv => arg 3; whnf
            refine Zc (Za t0 t1 t2 t3 (w64 (x42.1 + 1)) s0.2.1 s0.2.2.1 x42.2 m1_0 m1_1 m1_2 m1_3 m1_4 m1_5) (hrc t0 t1 t2 t3 (w64 (x42.1 + 1)) s0.2.1 s0.2.2.1 x42.2 m1_0 m1_1 m1_2 m1_3 m1_4 m1_5) fun x45 hx45 => ?_
            conv => arg 3; whnf
            exact Zd (ih _)
           ·conv => arg 3; whnf
            refine Zc (Za t0 t1 t2 t3 (w64 (x42.1 + 1)) s0.2.1 s0.2.2.1 x42.2 m1_0 m1_1 m1_2 m1_3 m1_4 m1_5) (hrc t0 t1 t2 t3 (w64 (x42.1 + 1)) s0.2.1 s0.2.2.1 x42.2 m1_0 m1_1 m1_2 m1_3 m1_4 m1_5) fun x46 hx46 => ?_
            conv => arg 3; whnf
            exact Zd (ih _)
         ·conv => arg 3; whnf
          refine Zad rfl ?_
          conv => arg 3; whnf
          refine Zad rfl ?_
          conv => arg 3; whnf
          refine Ze rfl ?_ ?_
          ·conv => arg 3; whnf
           refine Ze rfl ?_ ?_
           ·conv => arg 3; whnf
            refine Zc (Za t0 t1 t2 t3 s0.1 x42.1 s0.2.2.1 x42.2 m1_0 m1_1 m1_2 m1_3 m1_4 m1_5) (hrc t0 t1 t2 t3 s0.1 x42.1 s0.2.2.1 x42.2 m1_0 m1_1 m1_2 m1_3 m1_4 m1_5) fun x47 hx47 => ?_
            conv => arg 3; whnf
            exact Zd (ih _)
           ·conv => arg 3; whnf
            refine Zc (Za t0 t1 t2 t3 s0.1 x42.1 s0.2.2.1 x42.2 m1_0 m1_1 m1_2 m1_3 m1_4 m1_5) (hrc t0 t1 t2 t3 s0.1 x42.1 s0.2.2.1 x42.2 m1_0 m1_1 m1_2 m1_3 m1_4 m1_5) fun x48 hx48 => ?_
            conv => arg 3; whnf
            exact Zd (ih _)
          ·conv => arg 3; whnf
           refine Ze rfl ?_ ?_
           ·conv => arg 3; whnf
            refine Zc (Za t0 t1 t2 t3 (w64 (x42.1 + 1)) s0.2.1 s0.2.2.1 x42.2 m1_0 m1_1 m1_2 m1_3 m1_4 m1_5) (hrc t0 t1 t2 t3 (w64 (x42.1 + 1)) s0.2.1 s0.2.2.1 x42.2 m1_0 m1_1 m1_2 m1_3 m1_4 m1_5) fun x49 hx49 => ?_
            conv => arg 3; whnf
            exact Zd (ih _)
           ·conv => arg 3; whnf
            refine Zc (Za t0 t1 t2 t3 (w64 (x42.1 + 1)) s0.2.1 s0.2.2.1 x42.2 m1_0 m1_1 m1_2 m1_3 m1_4 m1_5) (hrc t0 t1 t2 t3 (w64 (x42.1 + 1)) s0.2.1 s0.2.2.1 x42.2 m1_0 m1_1 m1_2 m1_3 m1_4 m1_5) fun x50 hx50 => ?_
            conv => arg 3; whnf
            exact Zd (ih _)
      ·conv => arg 3; whnf
       refine Ze rfl ?_ ?_
       ·conv => arg 3; whnf
        refine Zj rfl rfl fun x51 hx51 => ?_
        conv => arg 3; whnf
        refine Zg (Zx rfl hx51) ?_
        conv => arg 3; whnf
        refine Zj rfl rfl fun x52 hx52 => ?_
        conv => arg 3; whnf
        refine Zg (Zx rfl hx52) ?_
        conv => arg 3; whnf
        refine Zl _ ZA rfl fun x53 hx53 => ?_
        conv => arg 3; whnf
        refine Ze rfl ?_ ?_
        ·conv => arg 3; whnf
         refine Zc _ Zh fun x54 hx54 => ?_
         clear hx54
         rcases x54 with x54 | x54
         ·conv => arg 3; whnf
          refine Zcg rfl ?_
          conv => arg 3; whnf
          refine Zad rfl ?_
          conv => arg 3; whnf
          refine Ze rfl ?_ ?_
          ·conv => arg 3; whnf
           refine Ze rfl ?_ ?_
           ·conv => arg 3; whnf
            refine Zc (Za t0 t1 t2 t3 s0.1 x54.1 s0.2.2.1 x54.2 m1_0 m1_1 m1_2 m1_3 m1_4 m1_5) (hrc t0 t1 t2 t3 s0.1 x54.1 s0.2.2.1 x54.2 m1_0 m1_1 m1_2 m1_3 m1_4 m1_5) fun x55 hx55 => ?_
            conv => arg 3; whnf
            exact Zd (ih _)
           ·conv => arg 3; whnf
            refine Zc (Za t0 t1 t2 t3 s0.1 x54.1 s0.2.2.1 x54.2 m1_0 m1_1 m1_2 m1_3 m1_4 m1_5) (hrc t0 t1 t2 t3 s0.1 x54.1 s0.2.2.1 x54.2 m1_0 m1_1 m1_2 m1_3 m1_4 m1_5) fun x56 hx56 => ?_
            conv => arg 3; whnf
            exact Zd (ih _)
          ·conv => arg 3; whnf
           refine Ze rfl ?_ ?_
           ·conv => arg 3; whnf
            refine Zc (Za t0 t1 t2 t3 (w64 (x54.1 + 1)) s0.2.1 s0.2.2.1 x54.2 m1_0 m1_1 m1_2 m1_3 m1_4 m1_5) (hrc t0 t1 t2 t3 (w64 (x54.1 + 1)) s0.2.1 s0.2.2.1 x54.2 m1_0 m1_1 m1_2 m1_3 m1_4 m1_5) fun x57 hx57 => ?_
            conv => arg 3; whnf
            exact Zd (ih _)
           ·conv => arg 3; whnf
            refine Zc (Za t0 t1 t2 t3 (w64 (x54.1 + 1)) s0.2.1 s0.2.2.1 x54.2 m1_0 m1_1 m1_2 m1_3 m1_4 m1_5) (hrc t0 t1 t2 t3 (w64 (x54.1 + 1)) s0.2.1 s0.2.2.1 x54.2 m1_0 m1_1 m1_2 m1_3 m1_4 m1_5) fun x58 hx58 => ?_
            conv => arg 3; whnf
            exact Zd (ih _)
         ·conv => arg 3; whnf
          refine Zad rfl ?_
          conv => arg 3; whnf
          refine Zad rfl ?_
          conv => arg 3; whnf
          refine Ze rfl ?_ ?_
          ·conv => arg 3; whnf
           refine Ze rfl ?_ ?_
           ·conv => arg 3; whnf
            refine Zc (Za t0 t1 t2 t3 s0.1 x54.1 s0.2.2.1 x54.2 m1_0 m1_1 m1_2 m1_3 m1_4 m1_5) (hrc t0 t1 t2 t3 s0.1 x54.1 s0.2.2.1 x54.2 m1_0 m1_1 m1_2 m1_3 m1_4 m1_5) fun x59 hx59 => ?_
            conv => arg 3; whnf
            exact Zd (ih _)
           ·conv => arg 3; whnf
            refine Zc (Za t0 t1 t2 t3 s0.1 x54.1 s0.2.2.1 x54.2 m1_0 m1_1 m1_2 m1_3 m1_4 m1_5) (hrc t0 t1 t2 t3 s0.1 x54.1 s0.2.2.1 x54.2 m1_0 m1_1 m1_2 m1_3 m1_4 m1_5) fun x60 hx60 => ?_
            conv => arg 3; whnf
            exact Zd (ih _)
          ·conv => arg 3; whnf
           refine Ze rfl ?_ ?_
           ·conv => arg 3; whnf
            refine Zc (Za t0 t1 t2 t3 (w64 (x54.1 + 1)) s0.2.1 s0.2.2.1 x54.2 m1_0 m1_1 m1_2 m1_3 m1_4 m1_5) (hrc t0 t1 t2 t3 (w64 (x54.1 + 1)) s0.2.1 s0.2.2.1 x54.2 m1_0 m1_1 m1_2 m1_3 m1_4 m1_5) fun x61 hx61 => ?_
            conv => arg 3; whnf
            exact Zd (ih _)
           ·conv => arg 3; whnf
            refine Zc (Za t0 t1 t2 t3 (w64 (x54.1 + 1)) s0.2.1 s0.2.2.1 x54.2 m1_0 m1_1 m1_2 m1_3 m1_4 m1_5) (hrc t0 t1 t2 t3 (w64 (x54.1 + 1)) s0.2.1 s0.2.2.1 x54.2 m1_0 m1_1 m1_2 m1_3 m1_4 m1_5) fun x62 hx62 => ?_
            conv => arg 3; whnf
            exact Zd (ih _)
        ·conv => arg 3; whnf
         refine Zc _ Zy fun x63 hx63 => ?_
         conv => arg 3; whnf
         exact Zd (ih _)
       ·conv => arg 3; whnf
        refine Zc _ Zh fun x64 hx64 => ?_
        clear hx64
        rcases x64 with x64 | x64
        ·conv => arg 3; whnf
         refine Zcg rfl ?_
         conv => arg 3; whnf
         refine Zad rfl ?_
         conv => arg 3; whnf
         refine Ze rfl ?_ ?_
         ·conv => arg 3; whnf
          refine Ze rfl ?_ ?_
          ·conv => arg 3; whnf
           refine Zc (Za t0 t1 t2 t3 s0.1 x64.1 s0.2.2.1 x64.2 m1_0 m1_1 m1_2 m1_3 m1_4 m1_5) (hrc t0 t1 t2 t3 s0.1 x64.1 s0.2.2.1 x64.2 m1_0 m1_1 m1_2 m1_3 m1_4 m1_5) fun x65 hx65 => ?_
           conv => arg 3; whnf
           exact Zd (ih _)
          ·conv => arg 3; whnf
           refine Zc (Za t0 t1 t2 t3 s0.1 x64.1 s0.2.2.1 x64.2 m1_0 m1_1 m1_2 m1_3 m1_4 m1_5) (hrc t0 t1 t2 t3 s0.1 x64.1 s0.2.2.1 x64.2 m1_0 m1_1 m1_2 m1_3 m1_4 m1_5) fun x66 hx66 => ?_
           conv => arg 3; whnf
           exact Zd (ih _)
         ·conv => arg 3; whnf
          refine Ze rfl ?_ ?_
          ·conv => arg 3; whnf
           refine Zc (Za t0 t1 t2 t3 (w64 (x64.1 + 1)) s0.2.1 s0.2.2.1 x64.2 m1_0 m1_1 m1_2 m1_3 m1_4 m1_5) (hrc t0 t1 t2 t3 (w64 (x64.1 + 1)) s0.2.1 s0.2.2.1 x64.2 m1_0 m1_1 m1_2 m1_3 m1_4 m1_5) fun x67 hx67 => ?_
           conv => arg 3; whnf
           exact Zd (ih _)
          ·conv => arg 3; whnf
           refine Zc (Za t0 t1 t2 t3 (w64 (x64.1 + 1)) s0.2.1 s0.2.2.1 x64.2 m1_0 m1_1 m1_2 m1_3 m1_4 m1_5) (hrc t0 t1 t2 t3 (w64 (x64.1 + 1)) s0.2.1 s0.2.2.1 x64.2 m1_0 m1_1 m1_2 m1_3 m1_4 m1_5) fun x68 hx68 => ?_
           conv => arg 3; whnf
           exact Zd (ih _)
        ·conv => arg 3; whnf
         refine Zad rfl ?_
         conv => arg 3; whnf
         refine Zad rfl ?_
         conv => arg 3; whnf
         refine Ze rfl ?_ ?_
         ·conv => arg 3; whnf
          refine Ze rfl ?_ ?_
          ·conv => arg 3; whnf
           refine Zc (Za t0 t1 t2 t3 s0.1 x64.1 s0.2.2.1 x64.2 m1_0 m1_1 m1_2 m1_3 m1_4 m1_5) (hrc t0 t1 t2 t3 s0.1 x64.1 s0.2.2.1 x64.2 m1_0 m1_1 m1_2 m1_3 m1_4 m1_5) fun x69 hx69 => ?_
           conv => arg 3; whnf
           exact Zd (ih _)
          ·conv => arg 3; whnf
           refine Zc (Za t0 t1 t2 t3 s0.1 x64.1 s0.2.2.1 x64.2 m1_0 m1_1 m1_2 m1_3 m1_4 m1_5) (hrc t0 t1 t2 t3 s0.1 x64.1 s0.2.2.1 x64.2 m1_0 m1_1 m1_2 m1_3 m1_4 m1_5) fun x70 hx70 => ?_
           conv => arg 3; whnf
           exact Zd (ih _)
         ·conv => arg 3; whnf
          refine Ze rfl ?_ ?_
          ·conv => arg 3; whnf
           refine Zc (Za t0 t1 t2 t3 (w64 (x64.1 + 1)) s0.2.1 s0.2.2.1 x64.2 m1_0 m1_1 m1_2 m1_3 m1_4 m1_5) (hrc t0 t1 t2 t3 (w64 (x64.1 + 1)) s0.2.1 s0.2.2.1 x64.2 m1_0 m1_1 m1_2 m1_3 m1_4 m1_5) fun x71 hx71 => ?_
           conv => arg 3; whnf
           exact Zd (ih _)
          ·conv => arg 3; whnf
           refine Zc (Za t0 t1 t2 t3 (w64 (x64.1 + 1)) s0.2.1 s0.2.2.1 x64.2 m1_0 m1_1 m1_2 m1_3 m1_4 m1_5) (hrc t0 t1 t2 t3 (w64 (x64.1 + 1)) s0.2.1 s0.2.2.1 x64.2 m1_0 m1_1 m1_2 m1_3 m1_4 m1_5) fun x72 hx72 => ?_
           conv => arg 3; whnf
           exact Zd (ih _)
theorem Zdn (rc : Int → Int → Int → (Int → Int → Option Int) → (List Int) → Option (List Int)) (hrc : ∀ (t0 : Bool) (t1 : Bool) (t2 : Bool) (t3 : Bool) (b : Int) (c : Int) (d : Int) (m0_0 : (List Int)) (m1_0 : Int) (m1_1 : Int) (m1_2 : (List ZK)) (m1_3 : (List ZI)) (m1_4 : (List Zq)) (m1_5 : (List Zm)) (r : (List Int)), rc b c d (fun z0 z1 => Zp z0 z1 m1_4) m0_0 = some r → evW ctx 124 [(.sl 0 1), (.d (Zb b)), (.d (Zb c)), (.d (Zb d)), (.fn 118 [(.ptr 1 0)])] [(.arr 1 (List.map Zb m0_0)), (.cells [(.d (Zb m1_0)), (.d (Zb m1_1)), (.d (D.list t0 (List.map ZV m1_2))), (.d (D.list t1 (List.map ZQ m1_3))), (.d (D.list t2 (List.map Zw m1_4))), (.d (D.list t3 (List.map Zr m1_5)))])] = some ((Za t0 t1 t2 t3 b c d m0_0 m1_0 m1_1 m1_2 m1_3 m1_4 m1_5) r)) (t0 : Bool) (t1 : Bool) (t2 : Bool) (t3 : Bool) (b : Int) (c : Int) (d : Int) (m0_0 : (List Int)) (m1_0 : Int) (m1_1 : Int) (m1_2 : (List ZK)) (m1_3 : (List ZI)) (m1_4 : (List Zq)) (m1_5 : (List Zm)) : ∀ r, (Zak rc b c d (fun z0 z1 => Zp z0 z1 m1_4) m0_0) = some r → evW ctx 124 [(.sl 0 1), (.d (Zb b)), (.d (Zb c)), (.d (Zb d)), (.fn 118 [(.ptr 1 0)])] [(.arr 1 (List.map Zb m0_0)), (.cells [(.d (Zb m1_0)), (.d (Zb m1_1)), (.d (D.list t0 (List.map ZV m1_2))), (.d (D.list t1 (List.map ZQ m1_3))), (.d (D.list t2 (List.map Zw m1_4))), (.d (D.list t3 (List.map Zr m1_5)))])] = some ((Za t0 t1 t2 t3 b c d m0_0 m1_0 m1_1 m1_2 m1_3 m1_4 m1_5) r) := by
 show ZR _ (fun r rhs => rhs = some ((Za t0 t1 t2 t3 b c d m0_0 m1_0 m1_1 m1_2 m1_3 m1_4 m1_5) r)) _
 unfold Zak
 rw [Ze7 ctx 124 ZtI _ _ rfl rfl]
 conv => arg 3; whnf
 refine Zc _ (Zdj hrc _) fun r219 hr219 => ?_
 conv => arg 3; whnf
 exact Zf rfl
theorem ZbK : ∀ (n : Nat) (t0 : Bool) (t1 : Bool) (t2 : Bool) (t3 : Bool) (b : Int) (c : Int) (d : Int) (m0_0 : (List Int)) (m1_0 : Int) (m1_1 : Int) (m1_2 : (List ZK)) (m1_3 : (List ZI)) (m1_4 : (List Zq)) (m1_5 : (List Zm)) (r : (List Int)), ZT n b c d (fun z0 z1 => Zp z0 z1 m1_4) m0_0 = some r → evW ctx 124 [(.sl 0 1), (.d (Zb b)), (.d (Zb c)), (.d (Zb d)), (.fn 118 [(.ptr 1 0)])] [(.arr 1 (List.map Zb m0_0)), (.cells [(.d (Zb m1_0)), (.d (Zb m1_1)), (.d (D.list t0 (List.map ZV m1_2))), (.d (D.list t1 (List.map ZQ m1_3))), (.d (D.list t2 (List.map Zw m1_4))), (.d (D.list t3 (List.map Zr m1_5)))])] = some ((Za t0 t1 t2 t3 b c d m0_0 m1_0 m1_1 m1_2 m1_3 m1_4 m1_5) r)
  | 0, t0, t1, t2, t3, b, c, d, m0_0, m1_0, m1_1, m1_2, m1_3, m1_4, m1_5, r, h => by cases h
  | n + 1, t0, t1, t2, t3, b, c, d, m0_0, m1_0, m1_1, m1_2, m1_3, m1_4, m1_5, r, h => Zdn (ZT n) (ZbK n) t0 t1 t2 t3 b c d m0_0 m1_0 m1_1 m1_2 m1_3 m1_4 m1_5 r h
theorem ZdB {t0 : Bool} {t1 : Bool} {t2 : Bool} {t3 : Bool} {b : Int} {c : Int} {d : Int} {m0_0 : (List Int)} {m1_0 : Int} {m1_1 : Int} {m1_2 : (List ZK)} {m1_3 : (List ZI)} {m1_4 : (List Zq)} {m1_5 : (List Zm)} : ∀ r, Zc1 b c d (fun z0 z1 => Zp z0 z1 m1_4) m0_0 = some r → evW ctx 124 [(.sl 0 1), (.d (Zb b)), (.d (Zb c)), (.d (Zb d)), (.fn 118 [(.ptr 1 0)])] [(.arr 1 (List.map Zb m0_0)), (.cells [(.d (Zb m1_0)), (.d (Zb m1_1)), (.d (D.list t0 (List.map ZV m1_2))), (.d (D.list t1 (List.map ZQ m1_3))), (.d (D.list t2 (List.map Zw m1_4))), (.d (D.list t3 (List.map Zr m1_5)))])] = some ((Za t0 t1 t2 t3 b c d m0_0 m1_0 m1_1 m1_2 m1_3 m1_4 m1_5) r) := fun r h => by
  obtain ⟨n, hn⟩ := Zuw h
  exact ZbK n t0 t1 t2 t3 b c d m0_0 m1_0 m1_1 m1_2 m1_3 m1_4 m1_5 r hn
def ZbX (t0 : Bool) (t1 : Bool) (t2 : Bool) (t3 : Bool) (m0_0 : (List Int)) (m1_0 : Int) (m1_1 : Int) (m1_2 : (List ZK)) (m1_3 : (List ZI)) (m1_4 : (List Zq)) (m1_5 : (List Zm)) : (List Int) → V × Zk
  | r => ((.d (D.tup [])), [(.arr 1 (List.map Zb r)), (.cells [(.d (Zb m1_0)), (.d (Zb m1_1)), (.d (D.list t0 (List.map ZV m1_2))), (.d (D.list t1 (List.map ZQ m1_3))), (.d (D.list t2 (List.map Zw m1_4))), (.d (D.list t3 (List.map Zr m1_5)))])])
theorem Zdz {t0 : Bool} {t1 : Bool} {t2 : Bool} {t3 : Bool} {m0_0 : (List Int)} {m1_0 : Int} {m1_1 : Int} {m1_2 : (List ZK)} {m1_3 : (List ZI)} {m1_4 : (List Zq)} {m1_5 : (List Zm)} : ∀ r, (Zaz (fun z0 z1 => Zp z0 z1 m1_4) m0_0) = some r → evW ctx 117 [(.sl 0 1), (.fn 118 [(.ptr 1 0)])] [(.arr 1 (List.map Zb m0_0)), (.cells [(.d (Zb m1_0)), (.d (Zb m1_1)), (.d (D.list t0 (List.map ZV m1_2))), (.d (D.list t1 (List.map ZQ m1_3))), (.d (D.list t2 (List.map Zw m1_4))), (.d (D.list t3 (List.map Zr m1_5)))])] = some ((ZbX t0 t1 t2 t3 m0_0 m1_0 m1_1 m1_2 m1_3 m1_4 m1_5) r) := by
 show ZR _ (fun r rhs => rhs = some ((ZbX t0 t1 t2 t3 m0_0 m1_0 m1_1 m1_2 m1_3 m1_4 m1_5) r)) _
 unfold Zaz
 rw [Ze7 ctx 117 Ztf _ _ rfl rfl]
 conv => arg 3; whnf
 refine Zu (ZU _ _) ?_
 conv => arg 3; whnf
 refine Zl _ Zgu rfl fun x0 hx0 => ?_
 conv => arg 3; whnf
 refine Zc _ ZdB fun x1 hx1 => ?_
 conv => arg 3; whnf
 exact Zf rfl
def Zg8 (r : (List Int)) : D := (D.list true (List.map Zb r))
def Zf0 (t0 : Bool) (t1 : Bool) (t2 : Bool) (t3 : Bool) (a : Zo) (b : Int) : (List Int) → Ex × List V × Zk
  | r => (.exit 0, [(.ptr 0 0), (.sl 1 1)], [(.cells (dV t0 t1 t2 t3 a)), (.arr 1 (List.map Zb r))])
theorem ZiE {t0 : Bool} {t1 : Bool} {t2 : Bool} {t3 : Bool} {a : Zo} {b : Int} : ∀ (s1 : Int × (List Int)) (r : (List Int)), lp (ZcK a b) s1 = some r → lpW ctx 0 [1, 2, 5, 12, 13, 14] [2, 5] ZqA [(.d (Zb b)), (.ptr 0 0), (.sl 1 1), (.d (D.list t2 (List.map Zw a.futures))), (.d (Zb (a.futures.length : Int))), (.d (Zb s1.1))] [(.cells (dV t0 t1 t2 t3 a)), (.arr 1 (List.map Zb s1.2))] = some ((Zf0 t0 t1 t2 t3 a b) r) := by
 refine ZaZ (Zf0 t0 t1 t2 t3 a b) ?_
 intro s1 rcl ih
 show ZR _ _ (lpW _ _ _ _ _ _ _)
 unfold ZcK
 rw [Za2]
 conv => arg 3; whnf
 refine Ze rfl ?_ ?_
 ·conv => arg 3; whnf
  refine Zj rfl rfl fun x2 hx2 => ?_
  conv => arg 3; whnf
  refine Ze rfl ?_ ?_
  ·conv => arg 3; whnf
   refine Zcg rfl ?_
   conv => arg 3; whnf
   refine Ze (ZiR Zb s1.2 1) ?_ ?_
   ·conv => arg 3; whnf
    refine Zu (ZiN Zb s1.2 [s1.1]) ?_
    conv => arg 3; whnf
    exact Zd (ih _)
   ·exact ZaE
  ·conv => arg 3; whnf
   exact Zd (ih _)
 ·conv => arg 3; whnf
  exact Zf rfl
theorem Zkg {t0 : Bool} {t1 : Bool} {t2 : Bool} {t3 : Bool} {a : Zo} {b : Int} : ∀ r, (Zeg a b) = some r → evD ctx 101 [(.d (D.agg (dA t0 t1 t2 t3 a))), (.d (Zb b))] = some (Zg8 r) := by
 show ZR _ (fun r rhs => rhs = some (Zg8 r)) _
 unfold Zeg
 rw [Zba ctx 101 Zse _ rfl rfl]
 conv => arg 3; whnf
 refine Zl _ ZfT rfl fun x0 hx0 => ?_
 conv => arg 3; whnf
 refine Ze rfl ?_ ?_
 ·conv => arg 3; whnf
  exact Zf rfl
 ·conv => arg 3; whnf
  refine Zu (ZU _ _) ?_
  conv => arg 3; whnf
  refine Zc _ (ZiE _) fun r3 hr3 => ?_
  conv => arg 3; whnf
  refine Zc _ Zdz fun x4 hx4 => ?_
  conv => arg 3; whnf
  exact Zf rfl
def ZiA (r : (List Int)) : D := (D.list true (List.map Zb r))
def ZgC (t0 : Bool) (t1 : Bool) (t2 : Bool) (t3 : Bool) (a : Zo) (b : Int) : (List Int) → Ex × List V × Zk
  | r => (.exit 0, [(.d (Zb b)), (.ptr 0 0), (.sl 1 1)], [(.cells (dV t0 t1 t2 t3 a)), (.arr 1 (List.map Zb r))])
theorem ZjB {t0 : Bool} {t1 : Bool} {t2 : Bool} {t3 : Bool} {a : Zo} {b : Int} : ∀ (s1 : Int × (List Int)) (r : (List Int)), lp (ZeI a b) s1 = some r → lpW ctx 0 [1, 2, 5, 14, 15, 16] [1, 2, 5] Zr4 [(.d (Zb b)), (.ptr 0 0), (.sl 1 1), (.d (D.list t1 (List.map ZQ a.edges))), (.d (Zb (a.edges.length : Int))), (.d (Zb s1.1))] [(.cells (dV t0 t1 t2 t3 a)), (.arr 1 (List.map Zb s1.2))] = some ((ZgC t0 t1 t2 t3 a b) r) := by
 refine ZaZ (ZgC t0 t1 t2 t3 a b) ?_
 intro s1 rcl ih
 show ZR _ _ (lpW _ _ _ _ _ _ _)
 unfold ZeI
 rw [Za2]
 conv => arg 3; whnf
 refine Ze rfl ?_ ?_
 ·conv => arg 3; whnf
  refine Zj rfl rfl fun x2 hx2 => ?_
  conv => arg 3; whnf
  refine Ze rfl ?_ ?_
  ·conv => arg 3; whnf
   refine Zcg rfl ?_
   conv => arg 3; whnf
   refine Ze (ZiR Zb s1.2 1) ?_ ?_
   ·conv => arg 3; whnf
    refine Zu (ZiN Zb s1.2 [x2.src]) ?_
    conv => arg 3; whnf
    exact Zd (ih _)
   ·exact ZaE
  ·conv => arg 3; whnf
   exact Zd (ih _)
 ·conv => arg 3; whnf
  exact Zf rfl
def ZgF (t0 : Bool) (t1 : Bool) (t2 : Bool) (t3 : Bool) (a : Zo) (x4 : (List Int)) : (List Int) → Ex × List V × Zk
  | r => (.exit 2, [(.sl 0 1)], [(.arr 1 (List.map Zb r))])
theorem Zjx {t0 : Bool} {t1 : Bool} {t2 : Bool} {t3 : Bool} {a : Zo} {x4 : (List Int)} : ∀ (s5 : Int × (List Int)) (r : (List Int)), lp (ZeJ a x4) s5 = some r → lpW ctx 0 [2, 5, 32, 33, 34] [5] Zs5 [(.ptr 0 0), (.sl 1 1), (.d (D.list true (List.map Zb x4))), (.d (Zb (x4.length : Int))), (.d (Zb s5.1))] [(.cells (dV t0 t1 t2 t3 a)), (.arr 1 (List.map Zb s5.2))] = some ((ZgF t0 t1 t2 t3 a x4) r) := by
 refine ZaZ (ZgF t0 t1 t2 t3 a x4) ?_
 intro s5 rcl ih
 show ZR _ _ (lpW _ _ _ _ _ _ _)
 unfold ZeJ
 rw [Za2]
 conv => arg 3; whnf
 refine Ze rfl ?_ ?_
 ·conv => arg 3; whnf
  refine Zj rfl rfl fun x6 hx6 => ?_
  conv => arg 3; whnf
  refine Zj rfl rfl fun x7 hx7 => ?_
  conv => arg 3; whnf
  refine Zcg rfl ?_
  conv => arg 3; whnf
  refine Ze (ZiR Zb s5.2 1) ?_ ?_
  ·conv => arg 3; whnf
   refine Zu (ZiN Zb s5.2 [x7.maker]) ?_
   conv => arg 3; whnf
   exact Zd (ih _)
  ·exact ZaE
 ·conv => arg 3; whnf
  exact Zf rfl
theorem Zld {t0 : Bool} {t1 : Bool} {t2 : Bool} {t3 : Bool} {a : Zo} {b : Int} : ∀ r, (Zes a b) = some r → evD ctx 76 [(.d (D.agg (dA t0 t1 t2 t3 a))), (.d (Zb b))] = some (ZiA r) := by
 show ZR _ (fun r rhs => rhs = some (ZiA r)) _
 unfold Zes
 rw [Zba ctx 76 Zv4 _ rfl rfl]
 conv => arg 3; whnf
 refine Zl _ ZfT rfl fun x0 hx0 => ?_
 conv => arg 3; whnf
 refine Ze rfl ?_ ?_
 ·conv => arg 3; whnf
  exact Zf rfl
 ·conv => arg 3; whnf
  refine Zu (ZU _ _) ?_
  conv => arg 3; whnf
  refine Zc _ (ZjB _) fun r3 hr3 => ?_
  conv => arg 3; whnf
  refine Zl _ Zkg rfl fun x4 hx4 => ?_
  conv => arg 3; whnf
  refine Zu (ZU _ _) ?_
  conv => arg 3; whnf
  refine Zc _ (Zjx _) fun r8 hr8 => ?_
  conv => arg 3; whnf
  exact Zf rfl
def ZiJ (r : Int) : D := (D.int .u32 r)
theorem Zdr {a : Int} : ∀ r, (Zcs a) = some r → evD ctx 64 [(.d (Zb a))] = some (ZiJ r) := by
 show ZR _ (fun r rhs => rhs = some (ZiJ r)) _
 unfold Zcs
 rw [Zba ctx 64 ZvX _ rfl rfl]
 conv => arg 3; whnf
 exact Zf rfl
def Zi8 : Unit → D
  | r => (D.agg [(D.int .u32 0), (D.fn 97 []), (D.int .u32 1), (D.fn 98 []), (D.int .u32 0), (D.fn 99 []), (D.int .u32 7), (D.fn 100 [])])
theorem Zmm : ∀ r, ZgI = some r → evD ctx 65 [] = some (Zi8 r) := by
 show ZR _ (fun r rhs => rhs = some (Zi8 r)) _
 unfold ZgI
 rw [Zba ctx 65 ZvA _ rfl rfl]
 conv => arg 3; whnf
 exact Zf rfl
def Zh3 (r : Int) : D := (D.int .u32 r)
theorem Zky {a : Int} {b : Int} : ∀ r, (ZeA a b) = some r → evD ctx 97 [(.d (D.int .u32 a)), (.d (D.int .u32 b))] = some (Zh3 r) := by
 show ZR _ (fun r rhs => rhs = some (Zh3 r)) _
 unfold ZeA
 rw [Zba ctx 97 Zv1 _ rfl rfl]
 conv => arg 3; whnf
 exact Zf rfl
def ZhX (r : Int) : D := (D.int .u32 r)
theorem Zko {a : Int} {b : Int} : ∀ r, (ZeC a b) = some r → evD ctx 98 [(.d (D.int .u32 a)), (.d (D.int .u32 b))] = some (ZhX r) := by
 show ZR _ (fun r rhs => rhs = some (ZhX r)) _
 unfold ZeC
 rw [Zba ctx 98 Zw2 _ rfl rfl]
 conv => arg 3; whnf
 exact Zf rfl
def Zh4 (r : Int) : D := (D.int .u32 r)
theorem ZkP {a : Int} {b : Int} : ∀ r, (ZeF a b) = some r → evD ctx 99 [(.d (D.int .u32 a)), (.d (D.int .u32 b))] = some (Zh4 r) := by
 show ZR _ (fun r rhs => rhs = some (Zh4 r)) _
 unfold ZeF
 rw [Zba ctx 99 Zwc _ rfl rfl]
 conv => arg 3; whnf
 exact Zf rfl
def Zh2 (r : Int) : D := (D.int .u32 r)
theorem Zks {a : Int} {b : Int} : ∀ r, (ZeD a b) = some r → evD ctx 100 [(.d (D.int .u32 a)), (.d (D.int .u32 b))] = some (Zh2 r) := by
 show ZR _ (fun r rhs => rhs = some (Zh2 r)) _
 unfold ZeD
 rw [Zba ctx 100 Zs2 _ rfl rfl]
 conv => arg 3; whnf
 exact Zf rfl
def Zk4 (r : Int) : D := (Zb r)
def Zim (t0 : Bool) (a : ZK) (b : (List Int)) : (List (Int × Int)) → Ex × List V × Zk
  | r => (.exit 1, [(.ptr 0 0), (.mp 1)], [(.cells [(.d (Zb a.op)), (.d (Zb a.arg)), (.d (Zb a.work))]), (.mp (mpD Zb Zb r))])
theorem Zlh {t0 : Bool} {a : ZK} {b : (List Int)} : ∀ (s0 : Int × (List (Int × Int))) (r : (List (Int × Int))), lp (ZdT b) s0 = some r → lpW ctx 0 [3, 7, 19, 20, 21] [3, 7] ZsE [(.ptr 0 0), (.mp 1), (.d (D.list t0 (List.map Zb b))), (.d (Zb (b.length : Int))), (.d (Zb s0.1))] [(.cells [(.d (Zb a.op)), (.d (Zb a.arg)), (.d (Zb a.work))]), (.mp (mpD Zb Zb s0.2))] = some ((Zim t0 a b) r) := by
 refine ZaZ (Zim t0 a b) ?_
 intro s0 rcl ih
 show ZR _ _ (lpW _ _ _ _ _ _ _)
 unfold ZdT
 rw [Za2]
 conv => arg 3; whnf
 refine Ze rfl ?_ ?_
 ·conv => arg 3; whnf
  refine Zj rfl rfl fun x1 hx1 => ?_
  conv => arg 3; whnf
  refine Zg (Zss (f := Zb) (g := Zb) (fun ka kb : Int => (ka == kb)) (fun _ _ => rfl) s0.2 s0.1 x1) ?_
  conv => arg 3; whnf
  exact Zd (ih _)
 ·conv => arg 3; whnf
  exact Zf rfl
def ZiK (t1 : Bool) (c : (List Int)) : Int → Ex × List V × Zk
  | r => (.exit 3, [(.d (D.int .u32 r))], [])
theorem Zli {t1 : Bool} {c : (List Int)} : ∀ (s6 : Int × Int) (r : Int), lp (ZdY c) s6 = some r → lpW ctx 0 [10, 11, 60, 61, 62] [11] ZlW [(.ptr 0 0), (.d (D.int .u32 s6.1)), (.d (D.list t1 (List.map Zb c))), (.d (Zb (c.length : Int))), (.d (Zb s6.2))] [(.cells [(.d (D.int .u32 0)), (.d (D.fn 97 []))])] = some ((ZiK t1 c) r) := by
 refine ZaZ (ZiK t1 c) ?_
 intro s6 rcl ih
 show ZR _ _ (lpW _ _ _ _ _ _ _)
 unfold ZdY
 rw [Za2]
 conv => arg 3; whnf
 refine Ze rfl ?_ ?_
 ·conv => arg 3; whnf
  refine Zj rfl rfl fun x7 hx7 => ?_
  conv => arg 3; whnf
  refine Zl _ Zdr rfl fun x8 hx8 => ?_
  conv => arg 3; whnf
  refine Zl _ Zky rfl fun x9 hx9 => ?_
  conv => arg 3; whnf
  exact Zd (ih _)
 ·conv => arg 3; whnf
  exact Zf rfl
def Zhb (t1 : Bool) (c : (List Int)) : Int → Ex × List V × Zk
  | r => (.exit 3, [(.d (D.int .u32 r))], [])
theorem Zki {t1 : Bool} {c : (List Int)} : ∀ (s11 : Int × Int) (r : Int), lp (Zdf c) s11 = some r → lpW ctx 0 [10, 11, 60, 61, 62] [11] ZlW [(.ptr 0 0), (.d (D.int .u32 s11.1)), (.d (D.list t1 (List.map Zb c))), (.d (Zb (c.length : Int))), (.d (Zb s11.2))] [(.cells [(.d (D.int .u32 1)), (.d (D.fn 98 []))])] = some ((Zhb t1 c) r) := by
 refine ZaZ (Zhb t1 c) ?_
 intro s11 rcl ih
 show ZR _ _ (lpW _ _ _ _ _ _ _)
 unfold Zdf
 rw [Za2]
 conv => arg 3; whnf
 refine Ze rfl ?_ ?_
 ·conv => arg 3; whnf
  refine Zj rfl rfl fun x12 hx12 => ?_
  conv => arg 3; whnf
  refine Zl _ Zdr rfl fun x13 hx13 => ?_
  conv => arg 3; whnf
  refine Zl _ Zko rfl fun x14 hx14 => ?_
  conv => arg 3; whnf
  exact Zd (ih _)
 ·conv => arg 3; whnf
  exact Zf rfl
def Zg3 (t1 : Bool) (c : (List Int)) : Int → Ex × List V × Zk
  | r => (.exit 3, [(.d (D.int .u32 r))], [])
theorem Zj4 {t1 : Bool} {c : (List Int)} : ∀ (s16 : Int × Int) (r : Int), lp (Zdi c) s16 = some r → lpW ctx 0 [10, 11, 60, 61, 62] [11] ZlW [(.ptr 0 0), (.d (D.int .u32 s16.1)), (.d (D.list t1 (List.map Zb c))), (.d (Zb (c.length : Int))), (.d (Zb s16.2))] [(.cells [(.d (D.int .u32 0)), (.d (D.fn 99 []))])] = some ((Zg3 t1 c) r) := by
 refine ZaZ (Zg3 t1 c) ?_
 intro s16 rcl ih
 show ZR _ _ (lpW _ _ _ _ _ _ _)
 unfold Zdi
 rw [Za2]
 conv => arg 3; whnf
 refine Ze rfl ?_ ?_
 ·conv => arg 3; whnf
  refine Zj rfl rfl fun x17 hx17 => ?_
  conv => arg 3; whnf
  refine Zl _ Zdr rfl fun x18 hx18 => ?_
  conv => arg 3; whnf
  refine Zl _ ZkP rfl fun x19 hx19 => ?_
  conv => arg 3; whnf
  exact Zd (ih _)
 ·conv => arg 3; whnf
  exact Zf rfl
def Zg5 (t1 : Bool) (c : (List Int)) : Int → Ex × List V × Zk
  | r => (.exit 3, [(.d (D.int .u32 r))], [])
theorem Zkk {t1 : Bool} {c : (List Int)} : ∀ (s21 : Int × Int) (r : Int), lp (Zdg c) s21 = some r → lpW ctx 0 [10, 11, 60, 61, 62] [11] ZlW [(.ptr 0 0), (.d (D.int .u32 s21.1)), (.d (D.list t1 (List.map Zb c))), (.d (Zb (c.length : Int))), (.d (Zb s21.2))] [(.cells [(.d (D.int .u32 7)), (.d (D.fn 100 []))])] = some ((Zg5 t1 c) r) := by
 refine ZaZ (Zg5 t1 c) ?_
 intro s21 rcl ih
 show ZR _ _ (lpW _ _ _ _ _ _ _)
 unfold Zdg
 rw [Za2]
 conv => arg 3; whnf
 refine Ze rfl ?_ ?_
 ·conv => arg 3; whnf
  refine Zj rfl rfl fun x22 hx22 => ?_
  conv => arg 3; whnf
  refine Zl _ Zdr rfl fun x23 hx23 => ?_
  conv => arg 3; whnf
  refine Zl _ Zks rfl fun x24 hx24 => ?_
  conv => arg 3; whnf
  exact Zd (ih _)
 ·conv => arg 3; whnf
  exact Zf rfl
theorem Zoa {t0 : Bool} {t1 : Bool} {a : ZK} {b : (List Int)} {c : (List Int)} : ∀ r, (Zhr a b c) = some r → evD ctx 39 [(.d (D.agg [(Zb a.op), (Zb a.arg), (Zb a.work)])), (.d (D.list t0 (List.map Zb b))), (.d (D.list t1 (List.map Zb c)))] = some (Zk4 r) := by
 show ZR _ (fun r rhs => rhs = some (Zk4 r)) _
 unfold Zhr
 rw [Zba ctx 39 Zvj _ rfl rfl]
 conv => arg 3; whnf
 refine Ze rfl ?_ ?_
 ·conv => arg 3; whnf
  refine Zu (ZU _ _) ?_
  conv => arg 3; whnf
  refine Zc _ (Zlh _) fun r2 hr2 => ?_
  conv => arg 3; whnf
  refine Zg (Zs9 (f := Zb) (g := Zb) (fun ka kb : Int => (ka == kb)) (fun _ _ => rfl) r2 a.arg 0) ?_
  conv => arg 3; whnf
  refine Zl _ Zdr rfl fun x3 hx3 => ?_
  conv => arg 3; whnf
  exact Zf rfl
 ·conv => arg 3; whnf
  refine Ze rfl ?_ ?_
  ·conv => arg 3; whnf
   refine Zl _ Zdr rfl fun x4 hx4 => ?_
   conv => arg 3; whnf
   exact Zf rfl
  ·conv => arg 3; whnf
   refine Ze rfl ?_ ?_
   ·conv => arg 3; whnf
    exact Zf rfl
   ·conv => arg 3; whnf
    refine Ze rfl ?_ ?_
    ·conv => arg 3; whnf
     exact Zf rfl
    ·conv => arg 3; whnf
     refine Zl _ Zmm rfl fun x5 hx5 => ?_
     conv => arg 3; whnf
     refine Ze rfl ?_ ?_
     ·conv => arg 3; whnf
      refine ZpI rfl ?_ ?_ ?_ ?_
      ·conv => arg 3; whnf
       refine Zg rfl ?_
       conv => arg 3; whnf
       refine Zu (ZU _ _) ?_
       conv => arg 3; whnf
       refine Zc _ (Zli _) fun r10 hr10 => ?_
       conv => arg 3; whnf
       exact Zf rfl
      ·conv => arg 3; whnf
       refine Zg rfl ?_
       conv => arg 3; whnf
       refine Zu (ZU _ _) ?_
       conv => arg 3; whnf
       refine Zc _ (Zki _) fun r15 hr15 => ?_
       conv => arg 3; whnf
       exact Zf rfl
      ·conv => arg 3; whnf
       refine Zg rfl ?_
       conv => arg 3; whnf
       refine Zu (ZU _ _) ?_
       conv => arg 3; whnf
       refine Zc _ (Zj4 _) fun r20 hr20 => ?_
       conv => arg 3; whnf
       exact Zf rfl
      ·conv => arg 3; whnf
       refine Zg rfl ?_
       conv => arg 3; whnf
       refine Zu (ZU _ _) ?_
       conv => arg 3; whnf
       refine Zc _ (Zkk _) fun r25 hr25 => ?_
       conv => arg 3; whnf
       exact Zf rfl
     ·exact ZaE
def Zh6 (r : Zs) : D := (D.agg [(D.list true (List.map Zb r.work)), (D.list true (List.map Zb r.vals))])
def Zgx (t0 : Bool) (t1 : Bool) (t2 : Bool) (t3 : Bool) (t4 : Bool) (a : Zo) (b : (List Int)) (c : Zs) (d : Int) (x2 : Int) (x4 : (List Int)) : (List Int) → Ex × List V × Zk
  | r => (.exit 0, [(.d (D.list t4 (List.map Zb b))), (.d (Zb d)), (.ptr 0 0), (.ptr 1 0), (.ptr 2 0), (.sl 3 1)], [(.cells (dV t0 t1 t2 t3 a)), (.cells [(.sl 4 1), (.sl 5 1)]), (.cells [(.sl 6 1), (.sl 7 1)]), (.arr 1 (List.map Zb r)), (.arr 1 (List.map Zb (List.set c.work d.toNat (w64 (x2 + 1))))), (.arr 1 (List.map Zb c.vals)), (.arr 1 []), (.arr 1 [])])
theorem Zi2 {t0 : Bool} {t1 : Bool} {t2 : Bool} {t3 : Bool} {t4 : Bool} {a : Zo} {b : (List Int)} {c : Zs} {d : Int} {x2 : Int} {x4 : (List Int)} : ∀ (s5 : Int × (List Int)) (r : (List Int)), lp (Zet c x4) s5 = some r → lpW ctx 0 [1, 3, 4, 6, 8, 9, 32, 33, 34] [1, 3, 4, 6, 8, 9] Zr8 [(.d (D.list t4 (List.map Zb b))), (.d (Zb d)), (.ptr 0 0), (.ptr 1 0), (.ptr 2 0), (.sl 3 1), (.d (D.list true (List.map Zb x4))), (.d (Zb (x4.length : Int))), (.d (Zb s5.1))] [(.cells (dV t0 t1 t2 t3 a)), (.cells [(.sl 4 1), (.sl 5 1)]), (.cells [(.sl 6 1), (.sl 7 1)]), (.arr 1 (List.map Zb s5.2)), (.arr 1 (List.map Zb (List.set c.work d.toNat (w64 (x2 + 1))))), (.arr 1 (List.map Zb c.vals)), (.arr 1 []), (.arr 1 [])] = some ((Zgx t0 t1 t2 t3 t4 a b c d x2 x4) r) := by
 refine ZaZ (Zgx t0 t1 t2 t3 t4 a b c d x2 x4) ?_
 intro s5 rcl ih
 show ZR _ _ (lpW _ _ _ _ _ _ _)
 unfold Zet
 rw [Za2]
 conv => arg 3; whnf
 refine Ze rfl ?_ ?_
 ·conv => arg 3; whnf
  refine Zj rfl rfl fun x6 hx6 => ?_
  conv => arg 3; whnf
  refine Zj rfl rfl fun x7 hx7 => ?_
  conv => arg 3; whnf
  refine Zg (Zx rfl hx7) ?_
  conv => arg 3; whnf
  refine Zcg rfl ?_
  conv => arg 3; whnf
  refine Ze (ZiR Zb s5.2 1) ?_ ?_
  ·conv => arg 3; whnf
   refine Zu (ZiN Zb s5.2 [x7]) ?_
   conv => arg 3; whnf
   exact Zd (ih _)
  ·exact ZaE
 ·conv => arg 3; whnf
  exact Zf rfl
theorem Zg9 {t0 : Bool} {t1 : Bool} {t2 : Bool} {t3 : Bool} {t4 : Bool} {t5 : Bool} {t6 : Bool} {a : Zo} {b : (List Int)} {c : Zs} {d : Int} : ∀ r, (Zd4 a b c d) = some r → evD ctx 48 [(.d (D.agg (dA t0 t1 t2 t3 a))), (.d (D.list t4 (List.map Zb b))), (.d (D.agg [(D.list t5 (List.map Zb c.work)), (D.list t6 (List.map Zb c.vals))])), (.d (Zb d))] = some (Zh6 r) := by
 show ZR _ (fun r rhs => rhs = some (Zh6 r)) _
 unfold Zd4
 rw [Zba ctx 48 Zv6 _ rfl rfl]
 conv => arg 3; whnf
 refine Zc _ Zee fun x0 hx0 => ?_
 conv => arg 3; whnf
 refine Zc _ Zee fun x1 hx1 => ?_
 conv => arg 3; whnf
 refine Zj rfl rfl fun x2 hx2 => ?_
 conv => arg 3; whnf
 refine Zg (Zx rfl hx2) ?_
 conv => arg 3; whnf
 refine Zg (Zbj rfl hx2) ?_
 conv => arg 3; whnf
 refine Zg (Zx rfl hx2) ?_
 conv => arg 3; whnf
 refine Zu (Zat Zb c.work d.toNat (w64 (x2 + 1))) ?_
 conv => arg 3; whnf
 refine Zl _ ZbF rfl fun x3 hx3 => ?_
 conv => arg 3; whnf
 refine Ze rfl ?_ ?_
 ·conv => arg 3; whnf
  refine Zl _ Zld rfl fun x4 hx4 => ?_
  conv => arg 3; whnf
  refine Zu (ZU _ _) ?_
  conv => arg 3; whnf
  refine Zc _ (Zi2 _) fun r8 hr8 => ?_
  conv => arg 3; whnf
  refine Zj rfl rfl fun x9 hx9 => ?_
  conv => arg 3; whnf
  refine Zl _ Zoa rfl fun x10 hx10 => ?_
  conv => arg 3; whnf
  refine Zj rfl rfl fun x11 hx11 => ?_
  conv => arg 3; whnf
  refine Zg (Zx rfl hx11) ?_
  conv => arg 3; whnf
  refine Zu (Zat Zb c.vals d.toNat x10) ?_
  conv => arg 3; whnf
  exact Zf rfl
 ·conv => arg 3; whnf
  exact Zf rfl
def Zjk (r : (Zs × Int)) : D := (D.tup [(D.agg [(D.list true (List.map Zb r.1.work)), (D.list true (List.map Zb r.1.vals))]), (Zb r.2)])
theorem Zmy {t0 : Bool} {t1 : Bool} {t2 : Bool} {t3 : Bool} {t4 : Bool} {t5 : Bool} {t6 : Bool} {a : Zo} {b : (List Int)} {c : Zs} {d : Int} : ∀ r, (ZfN a b c d) = some r → evD ctx 24 [(.d (D.agg (dA t0 t1 t2 t3 a))), (.d (D.list t4 (List.map Zb b))), (.d (D.agg [(D.list t5 (List.map Zb c.work)), (D.list t6 (List.map Zb c.vals))])), (.d (Zb d))] = some (Zjk r) := by
 show ZR _ (fun r rhs => rhs = some (Zjk r)) _
 unfold ZfN
 rw [Zba ctx 24 Zw0 _ rfl rfl]
 conv => arg 3; whnf
 refine Zl _ Zeb rfl fun x0 hx0 => ?_
 conv => arg 3; whnf
 refine Ze rfl ?_ ?_
 ·conv => arg 3; whnf
  refine Ze rfl ?_ ?_
  ·conv => arg 3; whnf
   exact Zf rfl
  ·conv => arg 3; whnf
   refine Zu (ZU _ _) ?_
   conv => arg 3; whnf
   refine Ze rfl ?_ ?_
   ·conv => arg 3; whnf
    exact Zf rfl
   ·conv => arg 3; whnf
    refine Ze rfl ?_ ?_
    ·conv => arg 3; whnf
     exact Zf rfl
    ·conv => arg 3; whnf
     refine Zl _ ZbF rfl fun x1 hx1 => ?_
     conv => arg 3; whnf
     refine Ze rfl ?_ ?_
     ·conv => arg 3; whnf
      exact Zf rfl
     ·conv => arg 3; whnf
      refine Zl _ Zfq rfl fun x2 hx2 => ?_
      conv => arg 3; whnf
      refine Ze rfl ?_ ?_
      ·conv => arg 3; whnf
       refine Zl _ Zg9 rfl fun x3 hx3 => ?_
       conv => arg 3; whnf
       exact Zf rfl
      ·conv => arg 3; whnf
       exact Zf rfl
 ·conv => arg 3; whnf
  refine Ze rfl ?_ ?_
  ·conv => arg 3; whnf
   exact Zf rfl
  ·conv => arg 3; whnf
   refine Zl _ ZbF rfl fun x4 hx4 => ?_
   conv => arg 3; whnf
   refine Ze rfl ?_ ?_
   ·conv => arg 3; whnf
    exact Zf rfl
   ·conv => arg 3; whnf
    refine Zl _ Zfq rfl fun x5 hx5 => ?_
    conv => arg 3; whnf
    refine Ze rfl ?_ ?_
    ·conv => arg 3; whnf
     refine Zl _ Zg9 rfl fun x6 hx6 => ?_
     conv => arg 3; whnf
     exact Zf rfl
    ·conv => arg 3; whnf
     exact Zf rfl
def Zf6 (r : Bool) : D := (D.bool r)
def Ze3 (t0 : Bool) (t1 : Bool) (t2 : Bool) (t3 : Bool) (t4 : Bool) (t5 : Bool) (a : Zo) (b : Zs) (c : Int) (x8 : (List Int)) (x11 : (Zs × Int)) : (Unit ⊕ Unit) → Ex × List V × Zk
  | (.inl r) => (.exit 0, [(.d (Zb c)), (.ptr 0 0), (.ptr 1 0), (.ptr 2 0), (.d (Zb x11.2)), (.d (D.bool true))], [(.cells (dV t0 t1 t2 t3 a)), (.cells [(.d (D.list t4 (List.map Zb b.work))), (.d (D.list t5 (List.map Zb b.vals)))]), (.cells [(.d (D.list true (List.map Zb x11.1.work))), (.d (D.list true (List.map Zb x11.1.vals)))])])
  | (.inr r) => (.exit 0, [(.d (Zb c)), (.ptr 0 0), (.ptr 1 0), (.ptr 2 0), (.d (Zb x11.2)), (.d (D.bool false))], [(.cells (dV t0 t1 t2 t3 a)), (.cells [(.d (D.list t4 (List.map Zb b.work))), (.d (D.list t5 (List.map Zb b.vals)))]), (.cells [(.d (D.list true (List.map Zb x11.1.work))), (.d (D.list true (List.map Zb x11.1.vals)))])])
theorem Zhv {t0 : Bool} {t1 : Bool} {t2 : Bool} {t3 : Bool} {t4 : Bool} {t5 : Bool} {a : Zo} {b : Zs} {c : Int} {x8 : (List Int)} {x11 : (Zs × Int)} : ∀ (s12 : Bool × Int) (r : (Unit ⊕ Unit)), lp (Za0 c x8) s12 = some r → lpW ctx 0 [2, 3, 4, 7, 8, 9, 10, 11] [2, 3, 4, 8, 9, 10] Zty [(.d (Zb c)), (.ptr 0 0), (.ptr 1 0), (.d (D.list true (List.map Zb x8))), (.ptr 2 0), (.d (Zb x11.2)), (.d (D.bool s12.1)), (.d (Zb s12.2))] [(.cells (dV t0 t1 t2 t3 a)), (.cells [(.d (D.list t4 (List.map Zb b.work))), (.d (D.list t5 (List.map Zb b.vals)))]), (.cells [(.d (D.list true (List.map Zb x11.1.work))), (.d (D.list true (List.map Zb x11.1.vals)))])] = some ((Ze3 t0 t1 t2 t3 t4 t5 a b c x8 x11) r) := by
 refine ZaZ (Ze3 t0 t1 t2 t3 t4 t5 a b c x8 x11) ?_
 intro s12 rcl ih
 show ZR _ _ (lpW _ _ _ _ _ _ _)
 unfold Za0
 rw [Za2]
 rcases hb : s12.1 with _ | _
 ·refine ZnT ?_
  conv => arg 3; whnf
  refine Zu (ZU _ _) ?_
  conv => arg 3; whnf
  refine Ze rfl ?_ ?_
  ·conv => arg 3; whnf
   refine Zj rfl rfl fun x13 hx13 => ?_
   conv => arg 3; whnf
   refine Ze rfl ?_ ?_
   ·conv => arg 3; whnf
    exact Zd (ih _)
   ·conv => arg 3; whnf
    exact Zd (ih _)
  ·conv => arg 3; whnf
   exact Zf rfl
 ·refine ZnN ?_
  conv => arg 3; whnf
  refine Zu (ZU _ _) ?_
  conv => arg 3; whnf
  refine Ze rfl ?_ ?_
  ·conv => arg 3; whnf
   exact Zd (ih _)
  ·conv => arg 3; whnf
   exact Zf rfl
def ZeW (t0 : Bool) (t1 : Bool) (t2 : Bool) (t3 : Bool) (t4 : Bool) (t5 : Bool) (a : Zo) (b : Zs) (c : Int) (x11 : (Zs × Int)) : (Unit ⊕ Unit) → Ex × List V × Zk
  | (.inl r) => (.ret, [(.ptr 0 0), (.d (D.bool false)), (.ptr 1 0), (.d (Zb x11.2)), (.d (D.bool true))], [(.cells (dV t0 t1 t2 t3 a)), (.cells [(.d (D.list true (List.map Zb x11.1.work))), (.d (D.list true (List.map Zb x11.1.vals)))])])
  | (.inr r) => (.exit 2, [(.ptr 0 0), .bad, (.ptr 1 0), (.d (Zb x11.2)), (.d (D.bool true))], [(.cells (dV t0 t1 t2 t3 a)), (.cells [(.d (D.list true (List.map Zb x11.1.work))), (.d (D.list true (List.map Zb x11.1.vals)))])])
theorem Zhm {t0 : Bool} {t1 : Bool} {t2 : Bool} {t3 : Bool} {t4 : Bool} {t5 : Bool} {a : Zo} {b : Zs} {c : Int} {x11 : (Zs × Int)} : ∀ (s15 : Int) (r : (Unit ⊕ Unit)), lp (Zbx b c x11) s15 = some r → lpW ctx 0 [2, 3, 4, 8, 9, 10, 12] [3, 6, 8, 9, 10] Zpw [(.d (Zb c)), (.ptr 0 0), (.ptr 1 0), (.ptr 2 0), (.d (Zb x11.2)), (.d (D.bool true)), (.d (Zb s15))] [(.cells (dV t0 t1 t2 t3 a)), (.cells [(.d (D.list t4 (List.map Zb b.work))), (.d (D.list t5 (List.map Zb b.vals)))]), (.cells [(.d (D.list true (List.map Zb x11.1.work))), (.d (D.list true (List.map Zb x11.1.vals)))])] = some ((ZeW t0 t1 t2 t3 t4 t5 a b c x11) r) := by
 refine ZaZ (ZeW t0 t1 t2 t3 t4 t5 a b c x11) ?_
 intro s15 rcl ih
 show ZR _ _ (lpW _ _ _ _ _ _ _)
 unfold Zbx
 rw [Za2]
 conv => arg 3; whnf
 refine Zu (ZU _ _) ?_
 conv => arg 3; whnf
 refine Ze rfl ?_ ?_
 ·conv => arg 3; whnf
  refine Ze rfl ?_ ?_
  ·conv => arg 3; whnf
   refine Zu (ZU _ _) ?_
   conv => arg 3; whnf
   refine Ze rfl ?_ ?_
   ·conv => arg 3; whnf
    exact Zf rfl
   ·conv => arg 3; whnf
    refine Zj rfl rfl fun x16 hx16 => ?_
    conv => arg 3; whnf
    refine Zj rfl rfl fun x17 hx17 => ?_
    conv => arg 3; whnf
    refine Ze rfl ?_ ?_
    ·conv => arg 3; whnf
     exact Zf rfl
    ·conv => arg 3; whnf
     exact Zd (ih _)
  ·conv => arg 3; whnf
   refine Zu (ZU _ _) ?_
   conv => arg 3; whnf
   refine Ze rfl ?_ ?_
   ·conv => arg 3; whnf
    exact Zf rfl
   ·conv => arg 3; whnf
    refine Zj rfl rfl fun x18 hx18 => ?_
    conv => arg 3; whnf
    refine Zj rfl rfl fun x19 hx19 => ?_
    conv => arg 3; whnf
    refine Ze rfl ?_ ?_
    ·conv => arg 3; whnf
     exact Zf rfl
    ·conv => arg 3; whnf
     exact Zd (ih _)
 ·conv => arg 3; whnf
  exact Zf rfl
def ZeG (t0 : Bool) (t1 : Bool) (t2 : Bool) (t3 : Bool) (t4 : Bool) (t5 : Bool) (a : Zo) (b : Zs) (c : Int) (x11 : (Zs × Int)) : Unit → Ex × List V × Zk
  | r => (.exit 2, [(.ptr 0 0), .bad, (.ptr 1 0), (.d (Zb x11.2)), (.d (D.bool false))], [(.cells (dV t0 t1 t2 t3 a)), (.cells [(.d (D.list true (List.map Zb x11.1.work))), (.d (D.list true (List.map Zb x11.1.vals)))])])
theorem ZgA {t0 : Bool} {t1 : Bool} {t2 : Bool} {t3 : Bool} {t4 : Bool} {t5 : Bool} {a : Zo} {b : Zs} {c : Int} {x11 : (Zs × Int)} : ∀ (s24 : Unit) (r : Unit), lp (Zca b) s24 = some r → lpW ctx 0 [2, 3, 4, 8, 9, 10, 12] [3, 6, 8, 9, 10] Zpw [(.d (Zb c)), (.ptr 0 0), (.ptr 1 0), (.ptr 2 0), (.d (Zb x11.2)), (.d (D.bool false)), (.d (Zb 0))] [(.cells (dV t0 t1 t2 t3 a)), (.cells [(.d (D.list t4 (List.map Zb b.work))), (.d (D.list t5 (List.map Zb b.vals)))]), (.cells [(.d (D.list true (List.map Zb x11.1.work))), (.d (D.list true (List.map Zb x11.1.vals)))])] = some ((ZeG t0 t1 t2 t3 t4 t5 a b c x11) r) := by
 refine ZaZ (ZeG t0 t1 t2 t3 t4 t5 a b c x11) ?_
 intro s24 rcl ih
 show ZR _ _ (lpW _ _ _ _ _ _ _)
 unfold Zca
 rw [Za2]
 conv => arg 3; whnf
 refine Zu (ZU _ _) ?_
 conv => arg 3; whnf
 refine Ze rfl ?_ ?_
 ·conv => arg 3; whnf
  exact Zf rfl
 ·conv => arg 3; whnf
  exact Zf rfl
theorem Zit {t0 : Bool} {t1 : Bool} {t2 : Bool} {t3 : Bool} {t4 : Bool} {t5 : Bool} {a : Zo} {b : Zs} {c : Int} : ∀ r, (Zed a b c) = some r → evD ctx 10 [(.d (D.agg (dA t0 t1 t2 t3 a))), (.d (D.agg [(D.list t4 (List.map Zb b.work)), (D.list t5 (List.map Zb b.vals))])), (.d (Zb c))] = some (Zf6 r) := by
 show ZR _ (fun r rhs => rhs = some (Zf6 r)) _
 unfold Zed
 rw [Zba ctx 10 ZwU _ rfl rfl]
 conv => arg 3; whnf
 refine Zl _ Zev rfl fun x0 hx0 => ?_
 conv => arg 3; whnf
 refine Ze rfl ?_ ?_
 ·conv => arg 3; whnf
  refine Zl _ Zlz rfl fun x1 hx1 => ?_
  conv => arg 3; whnf
  refine Ze rfl ?_ ?_
  ·conv => arg 3; whnf
   refine Zc _ Zfd fun x2 hx2 => ?_
   conv => arg 3; whnf
   refine Zc _ Ze2 fun x3 hx3 => ?_
   conv => arg 3; whnf
   refine Zl _ Zeb rfl fun x4 hx4 => ?_
   conv => arg 3; whnf
   refine Ze rfl ?_ ?_
   ·conv => arg 3; whnf
    refine Zl _ Zev rfl fun x5 hx5 => ?_
    conv => arg 3; whnf
    refine Ze rfl ?_ ?_
    ·conv => arg 3; whnf
     exact Zf rfl
    ·conv => arg 3; whnf
     exact Zf rfl
   ·conv => arg 3; whnf
    refine Zc _ Zfd fun x6 hx6 => ?_
    conv => arg 3; whnf
    refine Zc _ Ze2 fun x7 hx7 => ?_
    conv => arg 3; whnf
    refine Zl _ Zlf rfl fun x8 hx8 => ?_
    conv => arg 3; whnf
    refine Zc _ Zfd fun x9 hx9 => ?_
    conv => arg 3; whnf
    refine Zc _ Ze2 fun x10 hx10 => ?_
    conv => arg 3; whnf
    refine Zl _ Zmy rfl fun x11 hx11 => ?_
    conv => arg 3; whnf
    refine Zc _ (Zhv _) fun r14 hr14 => ?_
    clear hr14
    rcases r14 with r14 | r14
    ·conv => arg 3; whnf
     refine Zc _ (Zhm _) fun r20 hr20 => ?_
     clear hr20
     rcases r20 with r20 | r20
     ·conv => arg 3; whnf
      exact Zf rfl
     ·conv => arg 3; whnf
      refine Ze rfl ?_ ?_
      ·conv => arg 3; whnf
       refine Zcg rfl ?_
       conv => arg 3; whnf
       refine Zc _ Zfd fun x21 hx21 => ?_
       conv => arg 3; whnf
       refine Zc _ Ze2 fun x22 hx22 => ?_
       conv => arg 3; whnf
       refine Zl _ Zeb rfl fun x23 hx23 => ?_
       conv => arg 3; whnf
       refine Ze rfl ?_ ?_
       ·conv => arg 3; whnf
        exact Zf rfl
       ·conv => arg 3; whnf
        exact Zf rfl
      ·conv => arg 3; whnf
       refine Zad rfl ?_
       conv => arg 3; whnf
       exact Zf rfl
    ·conv => arg 3; whnf
     refine Zc _ (ZgA _) fun r25 hr25 => ?_
     conv => arg 3; whnf
     refine Ze rfl ?_ ?_
     ·conv => arg 3; whnf
      refine Zad rfl ?_
      conv => arg 3; whnf
      exact Zf rfl
     ·conv => arg 3; whnf
      refine Zcg rfl ?_
      conv => arg 3; whnf
      exact Zf rfl
  ·conv => arg 3; whnf
   refine Zl _ Zev rfl fun x26 hx26 => ?_
   conv => arg 3; whnf
   refine Ze rfl ?_ ?_
   ·conv => arg 3; whnf
    exact Zf rfl
   ·conv => arg 3; whnf
    exact Zf rfl
 ·conv => arg 3; whnf
  refine Zl _ Zev rfl fun x27 hx27 => ?_
  conv => arg 3; whnf
  refine Ze rfl ?_ ?_
  ·conv => arg 3; whnf
   exact Zf rfl
  ·conv => arg 3; whnf
   exact Zf rfl
end Go.Proofs.YtnmbdjkbaihicaaDoor
namespace Go.Proofs.YtnmbdjkbaihicaaDoor
open Go Go.Proofs.YtnmbdjkbaihicaaDoorE
abbrev Zte : List Lf × Bool := ([.int .i64], false)
abbrev Zox : List Lf × Bool := ([.int .i64, .int .i64, .sl true [.int .i64, .int .i64, .int .i64], .sl true [.int .i64, .int .i64], .sl true [.int .i64, .int .i64, .int .i64], .sl true [.sl false [.int .i64], .sl false [.int .i64]]], true)
abbrev Zo2 : List Lf × Bool := ([.sl false [.int .i64], .sl false [.int .i64]], true)
end Go.Proofs.YtnmbdjkbaihicaaDoor
namespace Go.Proofs.YtnmbdjkbaihicaaDoor
open Go Go.Proofs.YtnmbdjkbaihicaaDoorE
set_option linter.unusedVariables false
set_option linter.unusedSimpArgs false
theorem ZzX (c : Int) (l : List Int) (hl : l.length ≤ 1000) : lp (Za0 c l) (false, 0) = some (bif l.any (fun x => x == c) then .inl () else .inr ()) := by
 have key : ∀ k i : Nat, i + k = l.length → ∀ b : Bool, lp (Za0 c l) (b, (i : Int)) = some (bif b || (l.drop i).any (fun x => x == c) then .inl () else .inr ()) := by
  intro k
  induction k with
  | zero =>
   intro i hi b
   have : i = l.length := by omega
   subst this
   rw [Zb8, List.drop_length]
   cases b <;> simp only [Za0, Zff, cond_false, cond_true] <;> rfl
  | succ k ih =>
   intro i hi b
   have hi' : i < l.length := by omega
   have hx : l[i]? = some l[i] := List.getElem?_eq_getElem hi'
   have e := Zag hi' (show l.length < 9223372036854775808 by omega)
   rw [Zb8, List.drop_eq_getElem_cons hi', List.any_cons]
   cases b with
   | true =>
    simp only [Za0, ZeS hi', cond_true, e]
    rw [ih (i + 1) (by omega)]; rfl
   | false =>
    simp only [Za0, ZeS hi', cond_true, cond_false, e, Za3 hx, Option.bind_some]
    cases (l[i] == c) with
    | true => simp only [cond_true]; rw [ih (i + 1) (by omega)]; rfl
    | false => simp only [cond_false]; rw [ih (i + 1) (by omega)]; rfl
 have := key l.length 0 (by omega) false
 rw [List.drop_zero] at this
 exact this
theorem Zt0 {d : Zo} {s : Zs} (input : List Int) (r : Zom d s) (g : Zd1 d) {p : Int} (hp : inR d p) (e : Int) : lp (Zbx s p (ZeP d input s p, e)) 0 = some (.inr ()) := by
 have hl : s.work.length < 9223372036854775808 := by have := r.o.w; have := g.pl; omega
 have ol := (r.o.step input p).w
 have := Zew s.work (Zbx s p (ZeP d input s p, e)) (fun _ _ => false) (fun _ _ => .inl ()) (.inr ()) (fun i x hi hx => by
  have hd : inR d (i : Int) := Zkq (by rw [← r.o.w]; exact hi)
  have hw := r.rng i hd
  have hle := Zqp g (i : Int)
  have hxx : wk s (i : Int) = x := ZpJ hx
  have g1 := ZkL (r.o.step input p) hd
  have f1 : decide ((((ZeP d input s p).work.length : Nat) : Int) ≤ (i : Int)) = false := decide_eq_false (by rw [ol, ← r.o.w]; omega)
  simp only [Zbx, ZeS hi, Za3 hx, Option.bind_some, cond_true, Zag hi hl, f1, cond_false, g1]
  by_cases hc : (i : Int) = p
  ·rw [show ((i : Int) == p) = true by simpa using hc]
   simp only [cond_true]
   rw [hc, ZhI r.o input hp, ← hc, hxx, ZdV (n := x + 1) (by omega) (by omega)]
   simp
  ·rw [show ((i : Int) == p) = false by simpa using hc]
   simp only [cond_false]
   rw [ZeB input hp hd hc, hxx, ZdV (n := x + 0) (by omega) (by omega)]
   simp) (by simp only [Zbx, Zff]; rfl)
 rw [this, ZcS]
 have : ∀ (l : List Int) (i : Nat), Ze8 (fun (_ : Nat) (_ : Int) => false) i l = false := by
  intro l
  induction l with
  | nil => intro i; rfl
  | cons x l ih => intro i; unfold Ze8; rw [ih]; rfl
 rw [this]; rfl
theorem ZmO (d : Zo) (s : Zs) (p : Int) : Zed d s p = some true := by
 unfold Zed
 simp only [Zd5, Zvl, Option.bind_some, cond_true]
 cases hf : ZsM d [] s with
 | false => rfl
 | true =>
  obtain ⟨sd, _, hw, hv⟩ := ZuF hf
  have sh := sd.short
  simp only [ZyO d sd, Zti (show s.work.length ≤ 1000 by omega) (show s.vals.length ≤ 1000 by omega), Option.bind_some, ZsN, Zke d s sh, ZvY sh, ZCq sh [] (by simp), cond_true]
  by_cases hc : Zeq d s = 0
  case neg => rw [show (Zeq d s != 0) = true by simpa using hc]; rfl
  obtain ⟨h1, h2⟩ := ZkG hc
  have g := Zhn h1
  have r := ZiU.1 h2
  rw [hc]
  simp only [beq_self_eq_true, cond_true, bne_self_eq_false, cond_false]
  rw [ZzX p (Zrk d s) (Nat.le_trans (Zgo _ _) (by have := g.pl; omega))]
  have hgo : (Zrk d s).any (fun x => x == p) = true ↔ inR d p ∧ Zh5 d s p = true := by
   rw [List.any_eq_true]
   constructor
   ·rintro ⟨x, hx, he⟩
    obtain ⟨i, q1, q2, rfl⟩ := ZoA.1 hx
    have he := eq_of_beq he
    subst he
    exact ⟨Zkq q1, q2⟩
   ·rintro ⟨q1, q2⟩
    exact ⟨p, ZoA.2 ⟨p.toNat, q1.2, by rw [Int.toNat_of_nonneg q1.1]; exact q2, (Int.toNat_of_nonneg q1.1).symm⟩, by simp⟩
  cases hb : (Zrk d s).any (fun x => x == p) with
  | true =>
   obtain ⟨hp, hg⟩ := hgo.1 hb
   have hG := (ZrU g).1 hg
   have hn : ZcV d s p = false := Zsx hG.1
   have e : goS d [] s p = (ZeP d [] s p, 0) := by
    unfold goS
    rw [hc, decide_eq_false (by have := hp.1; omega), decide_eq_false (by have := hp.2; have := hp.1; omega), hn, hg]
    rfl
   rw [e]
   simp only [cond_true, Option.bind_some]
   have r' := Zpz g r [] hp hG
   have hlen : d.parts.length ≤ 16 := g.pl
   have hck : Zeq d (ZeP d [] s p) = 0 := by
    unfold Zeq
    rw [h1, ZiU.2 r']; rfl
   rw [Zt0 [] r g hp 0]
   simp only [Option.bind_some, beq_self_eq_true, cond_true]
   rw [Zti (show (ZeP d [] s p).work.length ≤ 1000 by rw [r'.o.w]; omega) (show (ZeP d [] s p).vals.length ≤ 1000 by rw [r'.o.v]; omega)]
   simp only [Option.bind_some, Zke d _ sh, hck]
   rfl
  | false =>
   have hno : ¬ (inR d p ∧ Zh5 d s p = true) := fun h => by rw [hgo.2 h] at hb; cases hb
   have e : (goS d [] s p).2 ≠ 0 := by
    unfold goS
    rw [hc]
    simp only [beq_self_eq_true, cond_true]
    by_cases c1 : p < 0
    ·rw [decide_eq_true c1]; simp
    by_cases c2 : (d.parts.length : Int) ≤ p
    ·rw [decide_eq_true c2]; simp
    rw [decide_eq_false c1, decide_eq_false c2]
    simp only [Bool.or_self, cond_false]
    cases ZcV d s p with
    | true => simp
    | false =>
     have : Zh5 d s p = false := by
      cases h : Zh5 d s p with
      | false => rfl
      | true => exact absurd ⟨⟨by omega, by omega⟩, h⟩ hno
     rw [this]; simp
   simp only [cond_false, Option.bind_some]
   have k : lp (Zca s) () = some () := by
    refine Zqj ?_
    unfold Zca
    cases decide ((0 : Int) < (s.work.length : Int)) <;> rfl
   rw [k]
   simp only [Option.bind_some]
   rw [show ((goS d [] s p).2 == 0) = false by simpa using e]
   rfl
theorem ZtH {xs : List D} (h : Ze9 [.sl false [.int .i64], .sl false [.int .i64]] xs) : ∃ s : Zs, D.agg xs = ZwH s ∧ ZtD s.work ∧ ZtD s.vals := by
 obtain ⟨_, _, rfl, h1, _, _, rfl, h2, rfl⟩ := h
 obtain ⟨a, rfl, p1⟩ := Zls h1
 obtain ⟨b, rfl, p2⟩ := Zls h2
 exact ⟨⟨a, b⟩, rfl, p1, p2⟩
theorem ZnX (xs : List D) (h : Ze9 Zox.1 xs) (ys : List D) (k : Ze9 Zo2.1 ys) (zs : List D) (m : Ze9 Zte.1 zs) :
  ∃ H', evW ctx 10 (Zcn [ZmN Zox.2 xs, ZmN Zo2.2 ys, ZmN Zte.2 zs]) [] = some (.d (.bool true), H') := by
 obtain ⟨d, hd, _⟩ := ZuB h
 obtain ⟨s, hs, _⟩ := ZtH k
 obtain ⟨n, hn, _⟩ := Zvv m
 show ∃ H', evW ctx 10 [.d (D.agg xs), .d (D.agg ys), .d (ZmN false zs)] [] = _
 rw [hd, hs, hn]
 exact ZsG (Zit true (ZmO d s n))
end Go.Proofs.YtnmbdjkbaihicaaDoor
namespace Go.Proofs.YtnmbdjkbaihicaaDoor.LawSourceMay
open Go.ChangeShapes Go.WideShapes Go.ChangeAt Go.RowKit Go.Proofs.YtnmbdjkbaihicaaDoorE
set_option linter.unusedVariables false
theorem own : ownKnob Tryd.prog.godebug = none := by kernel_rfl
theorem ZnF : laidOutB Tryd.prog = true := by kernel_rfl
def Zmb : List (String × DataW Unit) := [("math/bits.deBruijn32tab", Rows.laid_math_bits_deBruijn32tab), ("math/bits.deBruijn64tab", Rows.laid_math_bits_deBruijn64tab)]
theorem ZsW (os : Os) (args : Array Value) : laidMetH Tryd.prog Zmb ((World.doorLaid Tryd.prog 19 os).forCall (fun _ _ => 0) ⟨#[], args, []⟩).memory :=
 laidMetH_of_parts3 (fuel := 8) (laidMet_of_run' 8 (by kernel_rfl) (by kernel_rfl)) (by kernel_rfl) (by kernel_rfl)
theorem ZrH {W : World} (h : laidMetH Tryd.prog Zmb W) : GOK Zi R0 W := by
 intro g l hg
 unfold Zi at hg
 split at hg
 ·cases hg
  exact Zme (t := 148) (N := 32) (e := 5) (k := .u8) h (by kernel_rfl) (n := "math/bits.deBruijn32tab") (by rw [show DataW.agg (Zjs Zu8) = Rows.laid_math_bits_deBruijn32tab by kernel_rfl]; simp [Zmb]) (by kernel_rfl) (by kernel_rfl) (by kernel_rfl) (by kernel_rfl) (by kernel_rfl) (by kernel_rfl) (by decide)
 ·cases hg
  exact Zme (t := 149) (N := 64) (e := 5) (k := .u8) h (by kernel_rfl) (n := "math/bits.deBruijn64tab") (by rw [show DataW.agg (Zjs ZuP) = Rows.laid_math_bits_deBruijn64tab by kernel_rfl]; simp [Zmb]) (by kernel_rfl) (by kernel_rfl) (by kernel_rfl) (by kernel_rfl) (by kernel_rfl) (by kernel_rfl) (by decide)
 ·cases hg
theorem ZwA (os : Os) (started : os.Started) (H : Type) (enc : TypeId × Value → H) :
  ReturnsInHanded {} Tryd.checked os 10 .any (fun w args => (Rows.sourceMaySpec.pre enc Tryd.prog Tryd.f10 [] false w args ∧ laidMetH Tryd.prog Zmb w) ∧ sizedMet enc Tryd.prog Tryd.f10 (OpenSpec.ofChange Rows.sourceMaySpec) false w args) (Rows.sourceMaySpec.post enc Tryd.prog Tryd.f10 false true false false) := by
 refine returnsInHanded_of_change_and (C := Tryd.checked) (X := fun w _ => laidMetH Tryd.prog Zmb w) (fun _ _ _ hh h => h.of_heap hh) own started (by kernel_rfl) Tryd.func10
  (ChangeSpec.witness_shaped (enc := enc) (C := Tryd.checked) (os := os) (X := fun w _ => laidMetH Tryd.prog Zmb w) false (World.doorLaid Tryd.prog 19 os) #[.agg #[.int .i64 0, .int .i64 0, .slice none 0 0, .slice none 0 0, .slice none 0 0, .slice none 0 0], .agg #[.slice none 0 0, .slice none 0 0], .int .i64 0] 8 rfl (World.shaped_of_RefB (by kernel_rfl) (by kernel_rfl)) (by kernel_rfl) (by kernel_rfl) (by kernel_rfl) (ZsW os _)) ?_
 intro W base args ds gs before hval0 hW _ _ hL _
 have hval : ∀ (j : Nat) t v, Tryd.f10.params[j]? = some t → args[j]? = some v → Value.okWide Tryd.prog W .any base t v := hval0
 have hW' := hW
 obtain ⟨p, q, hA0, hV, rfl, hfz, hnd⟩ := hW
 have hA : DataW.TrodAll enc Tryd.prog W 0 (fun _ => true) true Tryd.f10.params.toList args.toList ds p := hA0
 rw [Tryd.params10] at hA hval
 obtain ⟨v0, vs0, d0, ds0, p0, q0, hargs, rfl, rfl, h0, r0⟩ := trodAll_cons hA
 obtain ⟨v1, vs1, d1, ds1, p1, q1, rfl, rfl, rfl, h1, r1⟩ := trodAll_cons r0
 obtain ⟨v2, vs2, d2, ds2, p2, q2, rfl, rfl, rfl, h2, r2⟩ := trodAll_cons r1
 obtain ⟨rfl, rfl, rfl⟩ := trodAll_nil r2
 obtain rfl : args = #[v0, v1, v2] := by cases args; simp_all
 obtain ⟨rfl, rfl⟩ := trodVars_none hV
 have lt0 : ∀ x ∈ p0, x.block < W.heap.size := by obtain ⟨m, hm⟩ := h0; exact DataW.trod_lt m _ _ _ hm
 obtain ⟨x0, ok0, den0⟩ := Zpj (P := Tryd.prog) (n := 8) (t := 27) (l := Zox.1) (ag := Zox.2) (by kernel_rfl) (hval 0 27 v0 rfl rfl) h0
 have lt1 : ∀ x ∈ p1, x.block < W.heap.size := by obtain ⟨m, hm⟩ := h1; exact DataW.trod_lt m _ _ _ hm
 obtain ⟨x1, ok1, den1⟩ := Zpj (P := Tryd.prog) (n := 8) (t := 51) (l := Zo2.1) (ag := Zo2.2) (by kernel_rfl) (hval 1 51 v1 rfl rfl) h1
 have lt2 : ∀ x ∈ p2, x.block < W.heap.size := by obtain ⟨m, hm⟩ := h2; exact DataW.trod_lt m _ _ _ hm
 obtain ⟨x2, ok2, den2⟩ := Zpj (P := Tryd.prog) (n := 8) (t := 3) (l := Zte.1) (ag := Zte.2) (by kernel_rfl) (hval 2 3 v2 rfl rfl) h2
 obtain ⟨H1, ev⟩ := ZnX x0 ok0 x1 ok1 x2 ok2
 have den : ZaI All All All W [ZmN Zox.2 x0, ZmN Zo2.2 x1, ZmN Zte.2 x2] [v0, v1, v2] := ⟨_, _, rfl, den0, ⟨_, _, rfl, den1, ⟨_, _, rfl, den2, rfl⟩⟩⟩
 refine (Zq2 ZxS (ZrH hL) den ev).mono fun e W' ⟨he, bel⟩ => ?_
 subst he
 exact ⟨_, rfl, _, _, _, [], _, [], hW', trodAll_mk1 (shut_bool Tryd.underlying4 _), (trodAll_cons_mk (Below.trod ZnF (by kernel_rfl) (of_decide_eq_true (by kernel_rfl)) h0 bel lt0) (trodAll_cons_mk (Below.trod ZnF (by kernel_rfl) (of_decide_eq_true (by kernel_rfl)) h1 bel lt1) (trodAll_cons_mk (Below.trod ZnF (by kernel_rfl) (of_decide_eq_true (by kernel_rfl)) h2 bel lt2) trodAll_mk0))), rfl, bel.frame _, fun h => by cases h⟩
theorem over : Rows.sourceMayRow.holds Tryd.pinned (OpenSpec.ofChange Rows.sourceMaySpec) :=
 OpenClaim.holds_of_wide 10 Tryd.f10 rfl rfl rfl rfl rfl rfl rfl ⟨rfl, rfl, rfl, rfl, rfl⟩ rfl rfl rfl rfl rfl (by kernel_rfl) Tryd.func10 (by kernel_rfl)
  (of_decide_eq_true (by kernel_rfl)) (by unfold Func.isWrapper; first | (rw [if_pos (by decide +kernel)]; kernel_rfl) | (rw [if_neg (by decide +kernel)]; exact ⟨rfl, rfl⟩))
  (fun os started H enc _ => ZwA os started H enc)
theorem proved : Rows.SourceMaySaid := over
theorem carded : Rows.SourceMayCardSaid :=
 Claim7.holds_tied_plain_at .later [] [.data, .data] true (true, "3ab9be834fa2b7d026ba399aa683e49be0919143fbbd24a24d6e9902cb90d35e") false
  proved (fun _ h => by cases h) (by kernel_rfl) (fun _ h => by cases h) sourceMay_row_tie rfl ⟨rfl, rfl⟩ (by kernel_rfl) rfl
  (fun f fn hf hfn => by
   obtain rfl : f = 10 := Option.some.inj ((show Tryd.prog.funcNamed "trefoil/trefoillaw09.SourceMay" = some 10 by kernel_rfl).symm.trans hf) |>.symm
   obtain rfl : fn = Tryd.f10 := (Option.some.inj (Tryd.func10.symm.trans hfn)).symm
   exact ⟨by kernel_rfl, fun j t ht => by
    rw [Tryd.params10] at ht
    have hm : t ∈ [27, 51, 3] := by simpa using Array.mem_of_getElem? ht
    have hall : ([27, 51, 3].all fun u => !Tryd.prog.wantsStandIn u) = true := by kernel_rfl
    exact (show Tryd.prog.wantsStandIn t = false by simpa using List.all_eq_true.1 hall t hm)⟩)
  (by kernel_rfl)
end Go.Proofs.YtnmbdjkbaihicaaDoor.LawSourceMay
namespace Go.Proofs.YtnmbdjkbaihicaaDoor
theorem sourceMay_holds : Rows.SourceMayCardSaid := LawSourceMay.carded
#print axioms sourceMay_holds
end Go.Proofs.YtnmbdjkbaihicaaDoor
