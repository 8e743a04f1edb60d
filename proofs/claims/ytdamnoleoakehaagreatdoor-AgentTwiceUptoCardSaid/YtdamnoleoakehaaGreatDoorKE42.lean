/- Part 42 of what the closing text rests on. -/
import Derived.Test.YtdamnoleoakehaaGreatDoorKE41
set_option maxRecDepth 100000
namespace Go.Q
noncomputable section
open Go.RowKit Go.Proofs
open Go.Z hiding cond_false get resF
theorem om5_0 : mmOk (.nil : Tr Ob) 0 (cS Γv5) m5_0 = true := by kernel_rfl
end
end Go.Q

set_option maxRecDepth 100000
namespace Go.Q
noncomputable section
open Go.RowKit Go.Proofs
open Go.Z hiding cond_false get resF
theorem om5_1 : mmOk (.nil : Tr Ob) 0 (cS Γv5) m5_1 = true := by kernel_rfl
end
end Go.Q

set_option maxRecDepth 100000
namespace Go.Q
noncomputable section
open Go.RowKit Go.Proofs
open Go.Z hiding cond_false get resF
theorem om5_2 : mmOk (.nil : Tr Ob) 0 (cS Γv5) m5_2 = true := by kernel_rfl
end
end Go.Q


