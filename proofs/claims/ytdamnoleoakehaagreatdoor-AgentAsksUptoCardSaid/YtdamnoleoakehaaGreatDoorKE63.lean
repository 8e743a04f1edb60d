/- Part 63 of what the closing text rests on. -/
import Derived.Test.YtdamnoleoakehaaGreatDoorKE58
set_option maxRecDepth 100000
namespace Go.Q
noncomputable section
open Go.RowKit Go.Proofs
open Go.Z hiding cond_false get resF
theorem ra0_16 : rOk ((bodyAt (leqG Γa0 17 true) 5 5).r (cS Γa0) ka0_16.e (ka0_16.st (.nil : Tr Ob) 1)) ka0_17 = true := by kernel_rfl
end
end Go.Q

set_option maxRecDepth 100000
namespace Go.Q
noncomputable section
open Go.RowKit Go.Proofs
open Go.Z hiding cond_false get resF
theorem ra0_17 : rOk ((bodyAt (leqG Γa0 18 true) 5 5).r (cS Γa0) ka0_17.e (ka0_17.st (.nil : Tr Ob) 1)) ka0_18 = true := by kernel_rfl
end
end Go.Q

set_option maxRecDepth 100000
namespace Go.Q
noncomputable section
open Go.RowKit Go.Proofs
open Go.Z hiding cond_false get resF
theorem ra0_18 : rOk ((bodyAt (leqG Γa0 19 true) 5 5).r (cS Γa0) ka0_18.e (ka0_18.st (.nil : Tr Ob) 1)) ka0_19 = true := by kernel_rfl
end
end Go.Q

set_option maxRecDepth 100000
namespace Go.Q
noncomputable section
open Go.RowKit Go.Proofs
open Go.Z hiding cond_false get resF
theorem ra0_19 : rOk ((bodyAt (leqG Γa0 20 true) 5 5).r (cS Γa0) ka0_19.e (ka0_19.st (.nil : Tr Ob) 1)) ka0_20 = true := by kernel_rfl
end
end Go.Q


