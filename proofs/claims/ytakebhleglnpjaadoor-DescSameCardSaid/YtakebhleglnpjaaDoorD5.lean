/- Chapter 5: the example. -/
import Derived.Test.YtakebhleglnpjaaDoorD4
import Derived.Test.YtakebhleglnpjaaDoorI3
import Derived.Test.YtakebhleglnpjaaDoorE34
import Derived.KernelRfl
namespace Go.Proofs.YtakebhleglnpjaaDoor
open Go Go.Proofs.YtakebhleglnpjaaDoorE
theorem awake05 : evW ctx 15 [] [] = some (.d (.bool true), []) := evW_of 60 (by kernel_rfl)
theorem _root_.Go.Proofs.YtakebhleglnpjaaDoorE.DescOK.short {d : DescT} (h : DescOK d) : d.short := ⟨h.pl, h.el, h.fl, h.bl, fun b hb => ⟨(h.b b hb).1.1, (h.b b hb).2.1⟩⟩
end Go.Proofs.YtakebhleglnpjaaDoor
