/- Part 26 of what the closing text rests on. -/
import Derived.Test.YtdamnoleoakehaaGreatDoorKO22
set_option maxRecDepth 100000
namespace Go.Q
noncomputable section
open Go.RowKit Go.Proofs
open Go.Z hiding cond_false get resF
theorem ok_mo_a3 : mmOk (.nil : Tr Ob) 0 (cS Γo3a) mo_a3 = true := by kernel_rfl
end
end Go.Q

set_option maxRecDepth 100000
namespace Go.Q
noncomputable section
open Go.RowKit Go.Proofs
open Go.Z hiding cond_false get resF
theorem ok_mo_n3b : mmOk (.nil : Tr Ob) 0 (cN Γo3n true) mo_n3b = true := by kernel_rfl
end
end Go.Q

set_option maxRecDepth 100000
namespace Go.Q
noncomputable section
open Go.RowKit Go.Proofs
open Go.Z hiding cond_false get resF
theorem ok_mo_n3c : mmOk (.nil : Tr Ob) 0 (cN Γo3n true) mo_n3c = true := by kernel_rfl
end
end Go.Q

set_option maxRecDepth 100000
namespace Go.Q
noncomputable section
open Go.RowKit Go.Proofs
open Go.Z hiding cond_false get resF
theorem ok_mo_s30 : mmOk (.nil : Tr Ob) 0 (cS ΓoB) mo_s30 = true := by kernel_rfl
end
end Go.Q

set_option maxRecDepth 100000
namespace Go.Q
noncomputable section
open Go.RowKit Go.Proofs
open Go.Z hiding cond_false get resF
theorem ok_mo_s31 : mmOk (.nil : Tr Ob) 0 (cS ΓoB) mo_s31 = true := by kernel_rfl
end
end Go.Q

set_option maxRecDepth 100000
namespace Go.Q
noncomputable section
open Go.RowKit Go.Proofs
open Go.Z hiding cond_false get resF
theorem ok_mo_s32 : mmOk (.nil : Tr Ob) 0 (cS ΓoB) mo_s32 = true := by kernel_rfl
end
end Go.Q

set_option maxRecDepth 100000
namespace Go.Q
noncomputable section
open Go.RowKit Go.Proofs
open Go.Z hiding cond_false get resF
theorem ok_mo_s33 : mmOk (.nil : Tr Ob) 0 (cS ΓoB) mo_s33 = true := by kernel_rfl
end
end Go.Q

set_option maxRecDepth 100000
namespace Go.Q
noncomputable section
open Go.RowKit Go.Proofs
open Go.Z hiding cond_false get resF
theorem ok_mo_s34 : mmOk (.nil : Tr Ob) 0 (cS ΓoB) mo_s34 = true := by kernel_rfl
end
end Go.Q

set_option maxRecDepth 100000
namespace Go.Q
noncomputable section
open Go.RowKit Go.Proofs
open Go.Z hiding cond_false get resF
theorem ok_mo_s35 : mmOk (.nil : Tr Ob) 0 (cS ΓoB) mo_s35 = true := by kernel_rfl
end
end Go.Q

