/- Part 34 of what the closing text rests on. -/
import Derived.Test.YtdamnoleoakehaaGreatDoorKE33
set_option maxRecDepth 100000
namespace Go.Q
noncomputable section
open Go.RowKit Go.Proofs
open Go.Z hiding cond_false get resF
theorem om3_0 : mmOk (winB) 1 (cS Γv3) m3_0 = true := by kernel_rfl
end
end Go.Q

set_option maxRecDepth 100000
namespace Go.Q
noncomputable section
open Go.RowKit Go.Proofs
open Go.Z hiding cond_false get resF
theorem om3_1 : mmOk (winB) 1 (cS Γv3) m3_1 = true := by kernel_rfl
end
end Go.Q

set_option maxRecDepth 100000
namespace Go.Q
noncomputable section
open Go.RowKit Go.Proofs
open Go.Z hiding cond_false get resF
theorem om3_2 : mmOk (winB) 1 (cS Γv3) m3_2 = true := by kernel_rfl
end
end Go.Q


