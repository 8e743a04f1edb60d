/- Part 69 of what the closing text rests on. -/
import Derived.Test.YtdamnoleoakehaaGreatDoorKE65
set_option maxRecDepth 100000
namespace Go.Q
noncomputable section
open Go.RowKit Go.Proofs
open Go.Z hiding cond_false get resF
theorem ra5_12 : rOk ((bodyAt (leqG Γa5 13 true) 5 5).r (cS Γa5) ka5_12.e (ka5_12.st (.nil : Tr Ob) 0)) ka5_13 = true := by kernel_rfl
end
end Go.Q

set_option maxRecDepth 100000
namespace Go.Q
noncomputable section
open Go.RowKit Go.Proofs
open Go.Z hiding cond_false get resF
theorem ra5_13 : rOk ((bodyAt (leqG Γa5 14 true) 5 5).r (cS Γa5) ka5_13.e (ka5_13.st (.nil : Tr Ob) 0)) ka5_14 = true := by kernel_rfl
end
end Go.Q

set_option maxRecDepth 100000
namespace Go.Q
noncomputable section
open Go.RowKit Go.Proofs
open Go.Z hiding cond_false get resF
theorem ra5_14 : rOk ((bodyAt (leqG Γa5 15 true) 5 5).r (cS Γa5) ka5_14.e (ka5_14.st (.nil : Tr Ob) 0)) ka5_15 = true := by kernel_rfl
end
end Go.Q

set_option maxRecDepth 100000
namespace Go.Q
noncomputable section
open Go.RowKit Go.Proofs
open Go.Z hiding cond_false get resF
theorem ra5_15 : rOk ((bodyAt (leqG Γa5 16 true) 5 5).r (cS Γa5) ka5_15.e (ka5_15.st (.nil : Tr Ob) 0)) ka5_16 = true := by kernel_rfl
end
end Go.Q


