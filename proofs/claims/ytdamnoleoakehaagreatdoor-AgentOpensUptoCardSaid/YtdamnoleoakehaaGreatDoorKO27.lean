/- Part 27 of what the closing text rests on. -/
import Derived.Test.YtdamnoleoakehaaGreatDoorKO22
set_option maxRecDepth 100000
namespace Go.Q
noncomputable section
open Go.RowKit Go.Proofs
open Go.Z hiding cond_false get resF
theorem ok_mo_a4 : mmOk (.nil : Tr Ob) 0 (cS Γo4a) mo_a4 = true := by kernel_rfl
end
end Go.Q

set_option maxRecDepth 100000
namespace Go.Q
noncomputable section
open Go.RowKit Go.Proofs
open Go.Z hiding cond_false get resF
theorem ok_mo_n4b : mmOk (.nil : Tr Ob) 0 (cN Γo4n true) mo_n4b = true := by kernel_rfl
end
end Go.Q

set_option maxRecDepth 100000
namespace Go.Q
noncomputable section
open Go.RowKit Go.Proofs
open Go.Z hiding cond_false get resF
theorem ok_mo_n4c : mmOk (.nil : Tr Ob) 0 (cN Γo4n true) mo_n4c = true := by kernel_rfl
end
end Go.Q

set_option maxRecDepth 100000
namespace Go.Q
noncomputable section
open Go.RowKit Go.Proofs
open Go.Z hiding cond_false get resF
theorem ok_mo_s40 : mmOk (.nil : Tr Ob) 0 (cS ΓoB) mo_s40 = true := by kernel_rfl
end
end Go.Q

set_option maxRecDepth 100000
namespace Go.Q
noncomputable section
open Go.RowKit Go.Proofs
open Go.Z hiding cond_false get resF
theorem ok_mo_s41 : mmOk (.nil : Tr Ob) 0 (cS ΓoB) mo_s41 = true := by kernel_rfl
end
end Go.Q

set_option maxRecDepth 100000
namespace Go.Q
noncomputable section
open Go.RowKit Go.Proofs
open Go.Z hiding cond_false get resF
theorem ok_mo_s42 : mmOk (.nil : Tr Ob) 0 (cS ΓoB) mo_s42 = true := by kernel_rfl
end
end Go.Q

set_option maxRecDepth 100000
namespace Go.Q
noncomputable section
open Go.RowKit Go.Proofs
open Go.Z hiding cond_false get resF
theorem ok_mo_s43 : mmOk (.nil : Tr Ob) 0 (cS ΓoB) mo_s43 = true := by kernel_rfl
end
end Go.Q

set_option maxRecDepth 100000
namespace Go.Q
noncomputable section
open Go.RowKit Go.Proofs
open Go.Z hiding cond_false get resF
theorem ok_mo_s44 : mmOk (.nil : Tr Ob) 0 (cS ΓoB) mo_s44 = true := by kernel_rfl
end
end Go.Q

set_option maxRecDepth 100000
namespace Go.Q
noncomputable section
open Go.RowKit Go.Proofs
open Go.Z hiding cond_false get resF
theorem ok_mo_s45 : mmOk (.nil : Tr Ob) 0 (cS ΓoB) mo_s45 = true := by kernel_rfl
end
end Go.Q

