/- Part 35 of what the closing text rests on. -/
import Derived.Test.YtdamnoleoakehaaGreatDoorKE33
set_option maxRecDepth 100000
namespace Go.Q
noncomputable section
open Go.RowKit Go.Proofs
open Go.Z hiding cond_false get resF
theorem om3_3 : mmOk (winB) 1 (cS Γv3) m3_3 = true := by kernel_rfl
end
end Go.Q

set_option maxRecDepth 100000
namespace Go.Q
noncomputable section
open Go.RowKit Go.Proofs
open Go.Z hiding cond_false get resF
theorem om3_4 : mmOk (winB) 1 (cS Γv3) m3_4 = true := by kernel_rfl
end
end Go.Q

set_option maxRecDepth 100000
namespace Go.Q
noncomputable section
open Go.RowKit Go.Proofs
open Go.Z hiding cond_false get resF
theorem om3_5 : mmOk (winB) 1 (cS Γv3) m3_5 = true := by kernel_rfl
end
end Go.Q


