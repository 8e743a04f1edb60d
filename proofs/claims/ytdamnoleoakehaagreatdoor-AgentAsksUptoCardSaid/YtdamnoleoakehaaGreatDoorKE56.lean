/- Part 56 of what the closing text rests on. -/
import Derived.Test.YtdamnoleoakehaaGreatDoorKE51
set_option maxRecDepth 100000
namespace Go.Q
noncomputable section
open Go.RowKit Go.Proofs
open Go.Z hiding cond_false get resF
theorem raG_16 : rOk ((bodyAt (leqG ΓaG 17 true) 5 5).r (cS ΓaG) kaG_16.e (kaG_16.st (winB) 1)) kaG_17 = true := by kernel_rfl
end
end Go.Q

set_option maxRecDepth 100000
namespace Go.Q
noncomputable section
open Go.RowKit Go.Proofs
open Go.Z hiding cond_false get resF
theorem raG_17 : rOk ((bodyAt (leqG ΓaG 18 true) 5 5).r (cS ΓaG) kaG_17.e (kaG_17.st (winB) 1)) kaG_18 = true := by kernel_rfl
end
end Go.Q

set_option maxRecDepth 100000
namespace Go.Q
noncomputable section
open Go.RowKit Go.Proofs
open Go.Z hiding cond_false get resF
theorem raG_18 : rOk ((bodyAt (leqG ΓaG 19 true) 5 5).r (cS ΓaG) kaG_18.e (kaG_18.st (winB) 1)) kaG_19 = true := by kernel_rfl
end
end Go.Q

set_option maxRecDepth 100000
namespace Go.Q
noncomputable section
open Go.RowKit Go.Proofs
open Go.Z hiding cond_false get resF
theorem raG_19 : rOk ((bodyAt (leqG ΓaG 20 true) 5 5).r (cS ΓaG) kaG_19.e (kaG_19.st (winB) 1)) kaG_20 = true := by kernel_rfl
end
end Go.Q


