/- Part 30 of what the closing text rests on. -/
import Derived.Test.YtlbfenfepmmihaaH24
import Derived.Test.YtlbfenfepmmihaaRows
namespace Go.ZR
open Go.Proofs
open Go.Z Go.ZM Go.RowKit
set_option maxRecDepth 100000
end Go.ZR
