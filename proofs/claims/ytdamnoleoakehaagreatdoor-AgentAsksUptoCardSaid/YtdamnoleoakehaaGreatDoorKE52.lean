/- Part 52 of what the closing text rests on. -/
import Derived.Test.YtdamnoleoakehaaGreatDoorKE51
set_option maxRecDepth 100000
namespace Go.Q
noncomputable section
open Go.RowKit Go.Proofs
open Go.Z hiding cond_false get resF
theorem raG_0 : rOk ((bodyAt (leqG ΓaG 1 true) 5 5).r (cS ΓaG) kaG_0.e (kaG_0.st (winB) 1)) kaG_1 = true := by kernel_rfl
end
end Go.Q

set_option maxRecDepth 100000
namespace Go.Q
noncomputable section
open Go.RowKit Go.Proofs
open Go.Z hiding cond_false get resF
theorem raG_1 : rOk ((bodyAt (leqG ΓaG 2 true) 5 5).r (cS ΓaG) kaG_1.e (kaG_1.st (winB) 1)) kaG_2 = true := by kernel_rfl
end
end Go.Q

set_option maxRecDepth 100000
namespace Go.Q
noncomputable section
open Go.RowKit Go.Proofs
open Go.Z hiding cond_false get resF
theorem raG_2 : rOk ((bodyAt (leqG ΓaG 3 true) 5 5).r (cS ΓaG) kaG_2.e (kaG_2.st (winB) 1)) kaG_3 = true := by kernel_rfl
end
end Go.Q

set_option maxRecDepth 100000
namespace Go.Q
noncomputable section
open Go.RowKit Go.Proofs
open Go.Z hiding cond_false get resF
theorem raG_3 : rOk ((bodyAt (leqG ΓaG 4 true) 5 5).r (cS ΓaG) kaG_3.e (kaG_3.st (winB) 1)) kaG_4 = true := by kernel_rfl
end
end Go.Q


