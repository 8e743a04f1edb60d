/- Part 23 of what the closing text rests on. -/
import Derived.Test.YtlbfenfepmmihaaU22
import Derived.Test.YtlbfenfepmmihaaRows
namespace Go.ZR
open Go.Proofs
open Go.Z Go.ZM Go.RowKit
set_option maxRecDepth 100000
theorem bytes3 : Try.prog.types[(3 : Nat)].bytes = 8 := by kernel_rfl
end Go.ZR
