/- Part 70 of what the closing text rests on. -/
import Derived.Test.YtdamnoleoakehaaGreatDoorKE65
set_option maxRecDepth 100000
namespace Go.Q
noncomputable section
open Go.RowKit Go.Proofs
open Go.Z hiding cond_false get resF
theorem ra5_16 : rOk ((bodyAt (leqG Γa5 17 true) 5 5).r (cS Γa5) ka5_16.e (ka5_16.st (.nil : Tr Ob) 0)) ka5_17 = true := by kernel_rfl
end
end Go.Q

set_option maxRecDepth 100000
namespace Go.Q
noncomputable section
open Go.RowKit Go.Proofs
open Go.Z hiding cond_false get resF
theorem ra5_17 : rOk ((bodyAt (leqG Γa5 18 true) 5 5).r (cS Γa5) ka5_17.e (ka5_17.st (.nil : Tr Ob) 0)) ka5_18 = true := by kernel_rfl
end
end Go.Q

set_option maxRecDepth 100000
namespace Go.Q
noncomputable section
open Go.RowKit Go.Proofs
open Go.Z hiding cond_false get resF
theorem ra5_18 : rOk ((bodyAt (leqG Γa5 19 true) 5 5).r (cS Γa5) ka5_18.e (ka5_18.st (.nil : Tr Ob) 0)) ka5_19 = true := by kernel_rfl
end
end Go.Q

set_option maxRecDepth 100000
namespace Go.Q
noncomputable section
open Go.RowKit Go.Proofs
open Go.Z hiding cond_false get resF
theorem ra5_19 : rOk ((bodyAt (leqG Γa5 20 true) 5 5).r (cS Γa5) ka5_19.e (ka5_19.st (.nil : Tr Ob) 0)) ka5_20 = true := by kernel_rfl
end
end Go.Q


