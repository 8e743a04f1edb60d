/- Part 62 of what the closing text rests on. -/
import Derived.Test.YtdamnoleoakehaaGreatDoorKE58
set_option maxRecDepth 100000
namespace Go.Q
noncomputable section
open Go.RowKit Go.Proofs
open Go.Z hiding cond_false get resF
theorem ra0_12 : rOk ((bodyAt (leqG Γa0 13 true) 5 5).r (cS Γa0) ka0_12.e (ka0_12.st (.nil : Tr Ob) 1)) ka0_13 = true := by kernel_rfl
end
end Go.Q

set_option maxRecDepth 100000
namespace Go.Q
noncomputable section
open Go.RowKit Go.Proofs
open Go.Z hiding cond_false get resF
theorem ra0_13 : rOk ((bodyAt (leqG Γa0 14 true) 5 5).r (cS Γa0) ka0_13.e (ka0_13.st (.nil : Tr Ob) 1)) ka0_14 = true := by kernel_rfl
end
end Go.Q

set_option maxRecDepth 100000
namespace Go.Q
noncomputable section
open Go.RowKit Go.Proofs
open Go.Z hiding cond_false get resF
theorem ra0_14 : rOk ((bodyAt (leqG Γa0 15 true) 5 5).r (cS Γa0) ka0_14.e (ka0_14.st (.nil : Tr Ob) 1)) ka0_15 = true := by kernel_rfl
end
end Go.Q

set_option maxRecDepth 100000
namespace Go.Q
noncomputable section
open Go.RowKit Go.Proofs
open Go.Z hiding cond_false get resF
theorem ra0_15 : rOk ((bodyAt (leqG Γa0 16 true) 5 5).r (cS Γa0) ka0_15.e (ka0_15.st (.nil : Tr Ob) 1)) ka0_16 = true := by kernel_rfl
end
end Go.Q


