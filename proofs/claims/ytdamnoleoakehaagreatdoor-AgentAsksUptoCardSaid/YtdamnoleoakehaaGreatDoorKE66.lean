/- Part 66 of what the closing text rests on. -/
import Derived.Test.YtdamnoleoakehaaGreatDoorKE65
set_option maxRecDepth 100000
namespace Go.Q
noncomputable section
open Go.RowKit Go.Proofs
open Go.Z hiding cond_false get resF
theorem ra5_0 : rOk ((bodyAt (leqG Γa5 1 true) 5 5).r (cS Γa5) ka5_0.e (ka5_0.st (.nil : Tr Ob) 0)) ka5_1 = true := by kernel_rfl
end
end Go.Q

set_option maxRecDepth 100000
namespace Go.Q
noncomputable section
open Go.RowKit Go.Proofs
open Go.Z hiding cond_false get resF
theorem ra5_1 : rOk ((bodyAt (leqG Γa5 2 true) 5 5).r (cS Γa5) ka5_1.e (ka5_1.st (.nil : Tr Ob) 0)) ka5_2 = true := by kernel_rfl
end
end Go.Q

set_option maxRecDepth 100000
namespace Go.Q
noncomputable section
open Go.RowKit Go.Proofs
open Go.Z hiding cond_false get resF
theorem ra5_2 : rOk ((bodyAt (leqG Γa5 3 true) 5 5).r (cS Γa5) ka5_2.e (ka5_2.st (.nil : Tr Ob) 0)) ka5_3 = true := by kernel_rfl
end
end Go.Q

set_option maxRecDepth 100000
namespace Go.Q
noncomputable section
open Go.RowKit Go.Proofs
open Go.Z hiding cond_false get resF
theorem ra5_3 : rOk ((bodyAt (leqG Γa5 4 true) 5 5).r (cS Γa5) ka5_3.e (ka5_3.st (.nil : Tr Ob) 0)) ka5_4 = true := by kernel_rfl
end
end Go.Q


