/- Part 43 of what the closing text rests on. -/
import Derived.Test.YtdamnoleoakehaaGreatDoorKE41
set_option maxRecDepth 100000
namespace Go.Q
noncomputable section
open Go.RowKit Go.Proofs
open Go.Z hiding cond_false get resF
theorem om5_3 : mmOk (.nil : Tr Ob) 0 (cS Γv5) m5_3 = true := by kernel_rfl
end
end Go.Q

set_option maxRecDepth 100000
namespace Go.Q
noncomputable section
open Go.RowKit Go.Proofs
open Go.Z hiding cond_false get resF
theorem om5_4 : mmOk (.nil : Tr Ob) 0 (cS Γv5) m5_4 = true := by kernel_rfl
end
end Go.Q

set_option maxRecDepth 100000
namespace Go.Q
noncomputable section
open Go.RowKit Go.Proofs
open Go.Z hiding cond_false get resF
theorem om5_5 : mmOk (.nil : Tr Ob) 0 (cS Γv5) m5_5 = true := by kernel_rfl
end
end Go.Q


