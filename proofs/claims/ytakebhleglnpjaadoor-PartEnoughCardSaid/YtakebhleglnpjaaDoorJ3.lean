import Derived.Test.YtakebhleglnpjaaDoorE31
namespace Go.Proofs.YtakebhleglnpjaaDoor
open Go Go.Proofs.YtakebhleglnpjaaDoorE
abbrev par3 : List Lf × Bool := ([.int .i64], false)
abbrev par27 : List Lf × Bool := ([.int .i64, .int .i64, .sl true [.int .i64, .int .i64, .int .i64], .sl true [.int .i64, .int .i64], .sl true [.int .i64, .int .i64, .int .i64], .sl true [.sl false [.int .i64], .sl false [.int .i64]]], true)
abbrev par34 : List Lf × Bool := ([.sl false [.int .i64]], false)
abbrev par43 : List Lf × Bool := ([.sl true [.int .i64, .int .i64, .int .i64, .int .i64, .int .i64]], false)
end Go.Proofs.YtakebhleglnpjaaDoor
