/- Part 53 of what the closing text rests on. -/
import Derived.Test.YtdamnoleoakehaaGreatDoorKE51
set_option maxRecDepth 100000
namespace Go.Q
noncomputable section
open Go.RowKit Go.Proofs
open Go.Z hiding cond_false get resF
theorem raG_4 : rOk ((bodyAt (leqG ΓaG 5 true) 5 5).r (cS ΓaG) kaG_4.e (kaG_4.st (winB) 1)) kaG_5 = true := by kernel_rfl
end
end Go.Q

set_option maxRecDepth 100000
namespace Go.Q
noncomputable section
open Go.RowKit Go.Proofs
open Go.Z hiding cond_false get resF
theorem raG_5 : rOk ((bodyAt (leqG ΓaG 6 true) 5 5).r (cS ΓaG) kaG_5.e (kaG_5.st (winB) 1)) kaG_6 = true := by kernel_rfl
end
end Go.Q

set_option maxRecDepth 100000
namespace Go.Q
noncomputable section
open Go.RowKit Go.Proofs
open Go.Z hiding cond_false get resF
theorem raG_6 : rOk ((bodyAt (leqG ΓaG 7 true) 5 5).r (cS ΓaG) kaG_6.e (kaG_6.st (winB) 1)) kaG_7 = true := by kernel_rfl
end
end Go.Q

set_option maxRecDepth 100000
namespace Go.Q
noncomputable section
open Go.RowKit Go.Proofs
open Go.Z hiding cond_false get resF
theorem raG_7 : rOk ((bodyAt (leqG ΓaG 8 true) 5 5).r (cS ΓaG) kaG_7.e (kaG_7.st (winB) 1)) kaG_8 = true := by kernel_rfl
end
end Go.Q


