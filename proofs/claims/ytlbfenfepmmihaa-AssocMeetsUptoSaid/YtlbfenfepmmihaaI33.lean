/- Part 33 of what the closing text rests on. -/
import Derived.Test.YtlbfenfepmmihaaI32
import Derived.Test.YtlbfenfepmmihaaRows
namespace Go.ZR
open Go.Proofs
open Go.Z Go.ZM Go.RowKit
set_option maxRecDepth 100000
theorem pr_read (p : PrR) : PrR.mk p.a p.b (ltrsOf (D.recs 4 p.v.length (ltrCell p.v))) (ltrsOf (D.recs 4 p.w.length (ltrCell p.w))) p.now p.draw p.u p.t = p := by rw [ltrsOf_ltrs, ltrsOf_ltrs]
end Go.ZR
