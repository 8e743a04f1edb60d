/- Part 60 of what the closing text rests on. -/
import Derived.Test.YtdamnoleoakehaaGreatDoorKE58
set_option maxRecDepth 100000
namespace Go.Q
noncomputable section
open Go.RowKit Go.Proofs
open Go.Z hiding cond_false get resF
theorem ra0_4 : rOk ((bodyAt (leqG Γa0 5 true) 5 5).r (cS Γa0) ka0_4.e (ka0_4.st (.nil : Tr Ob) 1)) ka0_5 = true := by kernel_rfl
end
end Go.Q

set_option maxRecDepth 100000
namespace Go.Q
noncomputable section
open Go.RowKit Go.Proofs
open Go.Z hiding cond_false get resF
theorem ra0_5 : rOk ((bodyAt (leqG Γa0 6 true) 5 5).r (cS Γa0) ka0_5.e (ka0_5.st (.nil : Tr Ob) 1)) ka0_6 = true := by kernel_rfl
end
end Go.Q

set_option maxRecDepth 100000
namespace Go.Q
noncomputable section
open Go.RowKit Go.Proofs
open Go.Z hiding cond_false get resF
theorem ra0_6 : rOk ((bodyAt (leqG Γa0 7 true) 5 5).r (cS Γa0) ka0_6.e (ka0_6.st (.nil : Tr Ob) 1)) ka0_7 = true := by kernel_rfl
end
end Go.Q

set_option maxRecDepth 100000
namespace Go.Q
noncomputable section
open Go.RowKit Go.Proofs
open Go.Z hiding cond_false get resF
theorem ra0_7 : rOk ((bodyAt (leqG Γa0 8 true) 5 5).r (cS Γa0) ka0_7.e (ka0_7.st (.nil : Tr Ob) 1)) ka0_8 = true := by kernel_rfl
end
end Go.Q


