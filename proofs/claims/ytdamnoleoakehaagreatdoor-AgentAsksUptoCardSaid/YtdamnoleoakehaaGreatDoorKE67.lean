/- Part 67 of what the closing text rests on. -/
import Derived.Test.YtdamnoleoakehaaGreatDoorKE65
set_option maxRecDepth 100000
namespace Go.Q
noncomputable section
open Go.RowKit Go.Proofs
open Go.Z hiding cond_false get resF
theorem ra5_4 : rOk ((bodyAt (leqG Γa5 5 true) 5 5).r (cS Γa5) ka5_4.e (ka5_4.st (.nil : Tr Ob) 0)) ka5_5 = true := by kernel_rfl
end
end Go.Q

set_option maxRecDepth 100000
namespace Go.Q
noncomputable section
open Go.RowKit Go.Proofs
open Go.Z hiding cond_false get resF
theorem ra5_5 : rOk ((bodyAt (leqG Γa5 6 true) 5 5).r (cS Γa5) ka5_5.e (ka5_5.st (.nil : Tr Ob) 0)) ka5_6 = true := by kernel_rfl
end
end Go.Q

set_option maxRecDepth 100000
namespace Go.Q
noncomputable section
open Go.RowKit Go.Proofs
open Go.Z hiding cond_false get resF
theorem ra5_6 : rOk ((bodyAt (leqG Γa5 7 true) 5 5).r (cS Γa5) ka5_6.e (ka5_6.st (.nil : Tr Ob) 0)) ka5_7 = true := by kernel_rfl
end
end Go.Q

set_option maxRecDepth 100000
namespace Go.Q
noncomputable section
open Go.RowKit Go.Proofs
open Go.Z hiding cond_false get resF
theorem ra5_7 : rOk ((bodyAt (leqG Γa5 8 true) 5 5).r (cS Γa5) ka5_7.e (ka5_7.st (.nil : Tr Ob) 0)) ka5_8 = true := by kernel_rfl
end
end Go.Q


