/- Part 61 of what the closing text rests on. -/
import Derived.Test.YtdamnoleoakehaaGreatDoorKE58
set_option maxRecDepth 100000
namespace Go.Q
noncomputable section
open Go.RowKit Go.Proofs
open Go.Z hiding cond_false get resF
theorem ra0_8 : rOk ((bodyAt (leqG Γa0 9 true) 5 5).r (cS Γa0) ka0_8.e (ka0_8.st (.nil : Tr Ob) 1)) ka0_9 = true := by kernel_rfl
end
end Go.Q

set_option maxRecDepth 100000
namespace Go.Q
noncomputable section
open Go.RowKit Go.Proofs
open Go.Z hiding cond_false get resF
theorem ra0_9 : rOk ((bodyAt (leqG Γa0 10 true) 5 5).r (cS Γa0) ka0_9.e (ka0_9.st (.nil : Tr Ob) 1)) ka0_10 = true := by kernel_rfl
end
end Go.Q

set_option maxRecDepth 100000
namespace Go.Q
noncomputable section
open Go.RowKit Go.Proofs
open Go.Z hiding cond_false get resF
theorem ra0_10 : rOk ((bodyAt (leqG Γa0 11 true) 5 5).r (cS Γa0) ka0_10.e (ka0_10.st (.nil : Tr Ob) 1)) ka0_11 = true := by kernel_rfl
end
end Go.Q

set_option maxRecDepth 100000
namespace Go.Q
noncomputable section
open Go.RowKit Go.Proofs
open Go.Z hiding cond_false get resF
theorem ra0_11 : rOk ((bodyAt (leqG Γa0 12 true) 5 5).r (cS Γa0) ka0_11.e (ka0_11.st (.nil : Tr Ob) 1)) ka0_12 = true := by kernel_rfl
end
end Go.Q


