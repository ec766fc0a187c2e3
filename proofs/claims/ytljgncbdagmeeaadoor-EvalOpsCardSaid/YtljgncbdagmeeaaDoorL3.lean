import Derived.Test.YtljgncbdagmeeaaDoorE31
namespace Go.Proofs.YtljgncbdagmeeaaDoor
open Go Go.Proofs.YtljgncbdagmeeaaDoorE
abbrev par3 : List Lf × Bool := ([.int .i64], false)
abbrev par27 : List Lf × Bool := ([.int .i64, .int .i64, .sl true [.int .i64, .int .i64, .int .i64], .sl true [.int .i64, .int .i64], .sl true [.int .i64, .int .i64, .int .i64], .sl true [.sl false [.int .i64], .sl false [.int .i64]]], true)
abbrev par30 : List Lf × Bool := ([.sl false [.int .i64]], false)
abbrev par35 : List Lf × Bool := ([.sl false [.int .i64], .sl true [.int .i64, .int .i64], .sl true [.int .i64, .int .i64]], true)
abbrev par42 : List Lf × Bool := ([.int .i64, .int .i64], true)
abbrev par50 : List Lf × Bool := ([.int .i64, .int .i64, .int .i64], true)
abbrev par63 : List Lf × Bool := ([.int .i64, .int .i64, .int .i64, .int .i64, .int .i64], true)
end Go.Proofs.YtljgncbdagmeeaaDoor
