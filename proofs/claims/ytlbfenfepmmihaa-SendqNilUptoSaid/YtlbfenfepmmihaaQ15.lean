/- Part 15 of what the closing text rests on. -/
import Derived.Test.YtlbfenfepmmihaaQ14
import Derived.Test.YtlbfenfepmmihaaRows
namespace Go.ZR
open Go.Proofs
open Go.Z Go.ZM Go.RowKit
set_option maxRecDepth 100000

end Go.ZR

set_option maxRecDepth 100000
namespace Go.ZR
open Go.Z Go.ZM Go.Proofs
end Go.ZR
