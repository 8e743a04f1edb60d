/- Part 31 of what the closing text rests on. -/
import Derived.Test.YtdamnoleoakehaaGreatDoorKE29
set_option maxRecDepth 100000
namespace Go.Q
noncomputable section
open Go.RowKit Go.Proofs
open Go.Z hiding cond_false get resF
theorem om2_3 : mmOk (winB) 1 (cS Γv2) m2_3 = true := by kernel_rfl
end
end Go.Q

set_option maxRecDepth 100000
namespace Go.Q
noncomputable section
open Go.RowKit Go.Proofs
open Go.Z hiding cond_false get resF
theorem om2_4 : mmOk (winB) 1 (cS Γv2) m2_4 = true := by kernel_rfl
end
end Go.Q

set_option maxRecDepth 100000
namespace Go.Q
noncomputable section
open Go.RowKit Go.Proofs
open Go.Z hiding cond_false get resF
theorem om2_5 : mmOk (winB) 1 (cS Γv2) m2_5 = true := by kernel_rfl
end
end Go.Q


