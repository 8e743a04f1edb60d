/- Part 55 of what the closing text rests on. -/
import Derived.Test.YtdamnoleoakehaaGreatDoorKE51
set_option maxRecDepth 100000
namespace Go.Q
noncomputable section
open Go.RowKit Go.Proofs
open Go.Z hiding cond_false get resF
theorem raG_12 : rOk ((bodyAt (leqG ΓaG 13 true) 5 5).r (cS ΓaG) kaG_12.e (kaG_12.st (winB) 1)) kaG_13 = true := by kernel_rfl
end
end Go.Q

set_option maxRecDepth 100000
namespace Go.Q
noncomputable section
open Go.RowKit Go.Proofs
open Go.Z hiding cond_false get resF
theorem raG_13 : rOk ((bodyAt (leqG ΓaG 14 true) 5 5).r (cS ΓaG) kaG_13.e (kaG_13.st (winB) 1)) kaG_14 = true := by kernel_rfl
end
end Go.Q

set_option maxRecDepth 100000
namespace Go.Q
noncomputable section
open Go.RowKit Go.Proofs
open Go.Z hiding cond_false get resF
theorem raG_14 : rOk ((bodyAt (leqG ΓaG 15 true) 5 5).r (cS ΓaG) kaG_14.e (kaG_14.st (winB) 1)) kaG_15 = true := by kernel_rfl
end
end Go.Q

set_option maxRecDepth 100000
namespace Go.Q
noncomputable section
open Go.RowKit Go.Proofs
open Go.Z hiding cond_false get resF
theorem raG_15 : rOk ((bodyAt (leqG ΓaG 16 true) 5 5).r (cS ΓaG) kaG_15.e (kaG_15.st (winB) 1)) kaG_16 = true := by kernel_rfl
end
end Go.Q


