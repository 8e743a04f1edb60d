/- Part 30 of what the closing text rests on. -/
import Derived.Test.YtdamnoleoakehaaGreatDoorKE29
set_option maxRecDepth 100000
namespace Go.Q
noncomputable section
open Go.RowKit Go.Proofs
open Go.Z hiding cond_false get resF
theorem om2_0 : mmOk (winB) 1 (cS Γv2) m2_0 = true := by kernel_rfl
end
end Go.Q

set_option maxRecDepth 100000
namespace Go.Q
noncomputable section
open Go.RowKit Go.Proofs
open Go.Z hiding cond_false get resF
theorem om2_1 : mmOk (winB) 1 (cS Γv2) m2_1 = true := by kernel_rfl
end
end Go.Q

set_option maxRecDepth 100000
namespace Go.Q
noncomputable section
open Go.RowKit Go.Proofs
open Go.Z hiding cond_false get resF
theorem om2_2 : mmOk (winB) 1 (cS Γv2) m2_2 = true := by kernel_rfl
end
end Go.Q


