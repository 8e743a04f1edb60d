/- Part 22 of what the closing text rests on. -/
import Derived.Test.YtdamnoleoakehaaGreatDoorKE21
set_option maxRecDepth 100000
namespace Go.Q
noncomputable section
open Go.RowKit Go.Proofs
open Go.Z hiding cond_false get resF
theorem om0_0 : mmOk (.nil : Tr Ob) 1 (cS Γv0) m0_0 = true := by kernel_rfl
end
end Go.Q

set_option maxRecDepth 100000
namespace Go.Q
noncomputable section
open Go.RowKit Go.Proofs
open Go.Z hiding cond_false get resF
theorem om0_1 : mmOk (.nil : Tr Ob) 1 (cS Γv0) m0_1 = true := by kernel_rfl
end
end Go.Q

set_option maxRecDepth 100000
namespace Go.Q
noncomputable section
open Go.RowKit Go.Proofs
open Go.Z hiding cond_false get resF
theorem om0_2 : mmOk (.nil : Tr Ob) 1 (cS Γv0) m0_2 = true := by kernel_rfl
end
end Go.Q


