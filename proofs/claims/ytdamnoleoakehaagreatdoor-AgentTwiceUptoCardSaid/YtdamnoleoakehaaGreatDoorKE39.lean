/- Part 39 of what the closing text rests on. -/
import Derived.Test.YtdamnoleoakehaaGreatDoorKE37
set_option maxRecDepth 100000
namespace Go.Q
noncomputable section
open Go.RowKit Go.Proofs
open Go.Z hiding cond_false get resF
theorem om4_3 : mmOk (winB) 1 (cS Γv4) m4_3 = true := by kernel_rfl
end
end Go.Q

set_option maxRecDepth 100000
namespace Go.Q
noncomputable section
open Go.RowKit Go.Proofs
open Go.Z hiding cond_false get resF
theorem om4_4 : mmOk (winB) 1 (cS Γv4) m4_4 = true := by kernel_rfl
end
end Go.Q

set_option maxRecDepth 100000
namespace Go.Q
noncomputable section
open Go.RowKit Go.Proofs
open Go.Z hiding cond_false get resF
theorem om4_5 : mmOk (winB) 1 (cS Γv4) m4_5 = true := by kernel_rfl
end
end Go.Q


