/- Part 23 of what the closing text rests on. -/
import Derived.Test.YtdamnoleoakehaaGreatDoorKE21
set_option maxRecDepth 100000
namespace Go.Q
noncomputable section
open Go.RowKit Go.Proofs
open Go.Z hiding cond_false get resF
theorem om0_3 : mmOk (.nil : Tr Ob) 1 (cS Γv0) m0_3 = true := by kernel_rfl
end
end Go.Q

set_option maxRecDepth 100000
namespace Go.Q
noncomputable section
open Go.RowKit Go.Proofs
open Go.Z hiding cond_false get resF
theorem om0_4 : mmOk (.nil : Tr Ob) 1 (cS Γv0) m0_4 = true := by kernel_rfl
end
end Go.Q

set_option maxRecDepth 100000
namespace Go.Q
noncomputable section
open Go.RowKit Go.Proofs
open Go.Z hiding cond_false get resF
theorem om0_5 : mmOk (.nil : Tr Ob) 1 (cS Γv0) m0_5 = true := by kernel_rfl
end
end Go.Q


