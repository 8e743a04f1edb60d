/- Part 26 of what the closing text rests on. -/
import Derived.Test.YtdamnoleoakehaaGreatDoorKE25
set_option maxRecDepth 100000
namespace Go.Q
noncomputable section
open Go.RowKit Go.Proofs
open Go.Z hiding cond_false get resF
theorem om1_0 : mmOk (winB) 1 (cS Γv1) m1_0 = true := by kernel_rfl
end
end Go.Q

set_option maxRecDepth 100000
namespace Go.Q
noncomputable section
open Go.RowKit Go.Proofs
open Go.Z hiding cond_false get resF
theorem om1_1 : mmOk (winB) 1 (cS Γv1) m1_1 = true := by kernel_rfl
end
end Go.Q

set_option maxRecDepth 100000
namespace Go.Q
noncomputable section
open Go.RowKit Go.Proofs
open Go.Z hiding cond_false get resF
theorem om1_2 : mmOk (winB) 1 (cS Γv1) m1_2 = true := by kernel_rfl
end
end Go.Q


