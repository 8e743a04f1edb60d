/- Part 59 of what the closing text rests on. -/
import Derived.Test.YtdamnoleoakehaaGreatDoorKE58
set_option maxRecDepth 100000
namespace Go.Q
noncomputable section
open Go.RowKit Go.Proofs
open Go.Z hiding cond_false get resF
theorem ra0_0 : rOk ((bodyAt (leqG Γa0 1 true) 5 5).r (cS Γa0) ka0_0.e (ka0_0.st (.nil : Tr Ob) 1)) ka0_1 = true := by kernel_rfl
end
end Go.Q

set_option maxRecDepth 100000
namespace Go.Q
noncomputable section
open Go.RowKit Go.Proofs
open Go.Z hiding cond_false get resF
theorem ra0_1 : rOk ((bodyAt (leqG Γa0 2 true) 5 5).r (cS Γa0) ka0_1.e (ka0_1.st (.nil : Tr Ob) 1)) ka0_2 = true := by kernel_rfl
end
end Go.Q

set_option maxRecDepth 100000
namespace Go.Q
noncomputable section
open Go.RowKit Go.Proofs
open Go.Z hiding cond_false get resF
theorem ra0_2 : rOk ((bodyAt (leqG Γa0 3 true) 5 5).r (cS Γa0) ka0_2.e (ka0_2.st (.nil : Tr Ob) 1)) ka0_3 = true := by kernel_rfl
end
end Go.Q

set_option maxRecDepth 100000
namespace Go.Q
noncomputable section
open Go.RowKit Go.Proofs
open Go.Z hiding cond_false get resF
theorem ra0_3 : rOk ((bodyAt (leqG Γa0 4 true) 5 5).r (cS Γa0) ka0_3.e (ka0_3.st (.nil : Tr Ob) 1)) ka0_4 = true := by kernel_rfl
end
end Go.Q


