/- Part 54 of what the closing text rests on. -/
import Derived.Test.YtdamnoleoakehaaGreatDoorKE51
set_option maxRecDepth 100000
namespace Go.Q
noncomputable section
open Go.RowKit Go.Proofs
open Go.Z hiding cond_false get resF
theorem raG_8 : rOk ((bodyAt (leqG ΓaG 9 true) 5 5).r (cS ΓaG) kaG_8.e (kaG_8.st (winB) 1)) kaG_9 = true := by kernel_rfl
end
end Go.Q

set_option maxRecDepth 100000
namespace Go.Q
noncomputable section
open Go.RowKit Go.Proofs
open Go.Z hiding cond_false get resF
theorem raG_9 : rOk ((bodyAt (leqG ΓaG 10 true) 5 5).r (cS ΓaG) kaG_9.e (kaG_9.st (winB) 1)) kaG_10 = true := by kernel_rfl
end
end Go.Q

set_option maxRecDepth 100000
namespace Go.Q
noncomputable section
open Go.RowKit Go.Proofs
open Go.Z hiding cond_false get resF
theorem raG_10 : rOk ((bodyAt (leqG ΓaG 11 true) 5 5).r (cS ΓaG) kaG_10.e (kaG_10.st (winB) 1)) kaG_11 = true := by kernel_rfl
end
end Go.Q

set_option maxRecDepth 100000
namespace Go.Q
noncomputable section
open Go.RowKit Go.Proofs
open Go.Z hiding cond_false get resF
theorem raG_11 : rOk ((bodyAt (leqG ΓaG 12 true) 5 5).r (cS ΓaG) kaG_11.e (kaG_11.st (winB) 1)) kaG_12 = true := by kernel_rfl
end
end Go.Q


