/- Part 23 of what the closing text rests on. -/
import Derived.Test.YtdamnoleoakehaaGreatDoorKO22
set_option maxRecDepth 100000
namespace Go.Q
noncomputable section
open Go.RowKit Go.Proofs
open Go.Z hiding cond_false get resF
theorem ok_mo_p0 : mmOk (.nil : Tr Ob) 0 (cS ΓoB) mo_p0 = true := by kernel_rfl
end
end Go.Q

set_option maxRecDepth 100000
namespace Go.Q
noncomputable section
open Go.RowKit Go.Proofs
open Go.Z hiding cond_false get resF
theorem ok_mo_p1 : mmOk (.nil : Tr Ob) 0 (cS ΓoB) mo_p1 = true := by kernel_rfl
end
end Go.Q

set_option maxRecDepth 100000
namespace Go.Q
noncomputable section
open Go.RowKit Go.Proofs
open Go.Z hiding cond_false get resF
theorem ok_mo_p2 : mmOk (.nil : Tr Ob) 0 (cS ΓoB) mo_p2 = true := by kernel_rfl
end
end Go.Q

set_option maxRecDepth 100000
namespace Go.Q
noncomputable section
open Go.RowKit Go.Proofs
open Go.Z hiding cond_false get resF
theorem ok_mo_q0 : mmOk (.nil : Tr Ob) 0 (cS ΓoB) mo_q0 = true := by kernel_rfl
end
end Go.Q

set_option maxRecDepth 100000
namespace Go.Q
noncomputable section
open Go.RowKit Go.Proofs
open Go.Z hiding cond_false get resF
theorem ok_mo_q1 : mmOk (.nil : Tr Ob) 0 (cS ΓoB) mo_q1 = true := by kernel_rfl
end
end Go.Q

set_option maxRecDepth 100000
namespace Go.Q
noncomputable section
open Go.RowKit Go.Proofs
open Go.Z hiding cond_false get resF
theorem ok_mo_q2 : mmOk (.nil : Tr Ob) 0 (cS ΓoB) mo_q2 = true := by kernel_rfl
end
end Go.Q

set_option maxRecDepth 100000
namespace Go.Q
noncomputable section
open Go.RowKit Go.Proofs
open Go.Z hiding cond_false get resF
theorem ok_mo_q3 : mmOk (.nil : Tr Ob) 0 (cS ΓoB) mo_q3 = true := by kernel_rfl
end
end Go.Q

set_option maxRecDepth 100000
namespace Go.Q
noncomputable section
open Go.RowKit Go.Proofs
open Go.Z hiding cond_false get resF
theorem ok_mo_q4 : mmOk (.nil : Tr Ob) 0 (cS ΓoB) mo_q4 = true := by kernel_rfl
end
end Go.Q

set_option maxRecDepth 100000
namespace Go.Q
noncomputable section
open Go.RowKit Go.Proofs
open Go.Z hiding cond_false get resF
theorem ok_mo_q5 : mmOk (.nil : Tr Ob) 0 (cS ΓoB) mo_q5 = true := by kernel_rfl
end
end Go.Q

