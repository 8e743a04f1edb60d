/- Part 27 of what the closing text rests on. -/
import Derived.Test.YtdamnoleoakehaaGreatDoorKE25
set_option maxRecDepth 100000
namespace Go.Q
noncomputable section
open Go.RowKit Go.Proofs
open Go.Z hiding cond_false get resF
theorem om1_3 : mmOk (winB) 1 (cS Γv1) m1_3 = true := by kernel_rfl
end
end Go.Q

set_option maxRecDepth 100000
namespace Go.Q
noncomputable section
open Go.RowKit Go.Proofs
open Go.Z hiding cond_false get resF
theorem om1_4 : mmOk (winB) 1 (cS Γv1) m1_4 = true := by kernel_rfl
end
end Go.Q

set_option maxRecDepth 100000
namespace Go.Q
noncomputable section
open Go.RowKit Go.Proofs
open Go.Z hiding cond_false get resF
theorem om1_5 : mmOk (winB) 1 (cS Γv1) m1_5 = true := by kernel_rfl
end
end Go.Q


