/- Part 38 of what the closing text rests on. -/
import Derived.Test.YtdamnoleoakehaaGreatDoorKE37
set_option maxRecDepth 100000
namespace Go.Q
noncomputable section
open Go.RowKit Go.Proofs
open Go.Z hiding cond_false get resF
theorem om4_0 : mmOk (winB) 1 (cS Γv4) m4_0 = true := by kernel_rfl
end
end Go.Q

set_option maxRecDepth 100000
namespace Go.Q
noncomputable section
open Go.RowKit Go.Proofs
open Go.Z hiding cond_false get resF
theorem om4_1 : mmOk (winB) 1 (cS Γv4) m4_1 = true := by kernel_rfl
end
end Go.Q

set_option maxRecDepth 100000
namespace Go.Q
noncomputable section
open Go.RowKit Go.Proofs
open Go.Z hiding cond_false get resF
theorem om4_2 : mmOk (winB) 1 (cS Γv4) m4_2 = true := by kernel_rfl
end
end Go.Q


