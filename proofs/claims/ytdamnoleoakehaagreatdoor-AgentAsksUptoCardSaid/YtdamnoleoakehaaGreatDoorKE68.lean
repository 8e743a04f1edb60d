/- Part 68 of what the closing text rests on. -/
import Derived.Test.YtdamnoleoakehaaGreatDoorKE65
set_option maxRecDepth 100000
namespace Go.Q
noncomputable section
open Go.RowKit Go.Proofs
open Go.Z hiding cond_false get resF
theorem ra5_8 : rOk ((bodyAt (leqG Γa5 9 true) 5 5).r (cS Γa5) ka5_8.e (ka5_8.st (.nil : Tr Ob) 0)) ka5_9 = true := by kernel_rfl
end
end Go.Q

set_option maxRecDepth 100000
namespace Go.Q
noncomputable section
open Go.RowKit Go.Proofs
open Go.Z hiding cond_false get resF
theorem ra5_9 : rOk ((bodyAt (leqG Γa5 10 true) 5 5).r (cS Γa5) ka5_9.e (ka5_9.st (.nil : Tr Ob) 0)) ka5_10 = true := by kernel_rfl
end
end Go.Q

set_option maxRecDepth 100000
namespace Go.Q
noncomputable section
open Go.RowKit Go.Proofs
open Go.Z hiding cond_false get resF
theorem ra5_10 : rOk ((bodyAt (leqG Γa5 11 true) 5 5).r (cS Γa5) ka5_10.e (ka5_10.st (.nil : Tr Ob) 0)) ka5_11 = true := by kernel_rfl
end
end Go.Q

set_option maxRecDepth 100000
namespace Go.Q
noncomputable section
open Go.RowKit Go.Proofs
open Go.Z hiding cond_false get resF
theorem ra5_11 : rOk ((bodyAt (leqG Γa5 12 true) 5 5).r (cS Γa5) ka5_11.e (ka5_11.st (.nil : Tr Ob) 0)) ka5_12 = true := by kernel_rfl
end
end Go.Q


