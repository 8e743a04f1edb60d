/- Part 24 of what the closing text rests on. -/
import Derived.Test.YtdamnoleoakehaaGreatDoorKO22
set_option maxRecDepth 100000
namespace Go.Q
noncomputable section
open Go.RowKit Go.Proofs
open Go.Z hiding cond_false get resF
theorem ok_mo_a1 : mmOk (.nil : Tr Ob) 0 (cS Γo1a) mo_a1 = true := by kernel_rfl
end
end Go.Q

set_option maxRecDepth 100000
namespace Go.Q
noncomputable section
open Go.RowKit Go.Proofs
open Go.Z hiding cond_false get resF
theorem ok_mo_n1b : mmOk (.nil : Tr Ob) 0 (cN Γo1n true) mo_n1b = true := by kernel_rfl
end
end Go.Q

set_option maxRecDepth 100000
namespace Go.Q
noncomputable section
open Go.RowKit Go.Proofs
open Go.Z hiding cond_false get resF
theorem ok_mo_n1c : mmOk (.nil : Tr Ob) 0 (cN Γo1n true) mo_n1c = true := by kernel_rfl
end
end Go.Q

set_option maxRecDepth 100000
namespace Go.Q
noncomputable section
open Go.RowKit Go.Proofs
open Go.Z hiding cond_false get resF
theorem ok_mo_s10 : mmOk (.nil : Tr Ob) 0 (cS ΓoB) mo_s10 = true := by kernel_rfl
end
end Go.Q

set_option maxRecDepth 100000
namespace Go.Q
noncomputable section
open Go.RowKit Go.Proofs
open Go.Z hiding cond_false get resF
theorem ok_mo_s11 : mmOk (.nil : Tr Ob) 0 (cS ΓoB) mo_s11 = true := by kernel_rfl
end
end Go.Q

set_option maxRecDepth 100000
namespace Go.Q
noncomputable section
open Go.RowKit Go.Proofs
open Go.Z hiding cond_false get resF
theorem ok_mo_s12 : mmOk (.nil : Tr Ob) 0 (cS ΓoB) mo_s12 = true := by kernel_rfl
end
end Go.Q

set_option maxRecDepth 100000
namespace Go.Q
noncomputable section
open Go.RowKit Go.Proofs
open Go.Z hiding cond_false get resF
theorem ok_mo_s13 : mmOk (.nil : Tr Ob) 0 (cS ΓoB) mo_s13 = true := by kernel_rfl
end
end Go.Q

set_option maxRecDepth 100000
namespace Go.Q
noncomputable section
open Go.RowKit Go.Proofs
open Go.Z hiding cond_false get resF
theorem ok_mo_s14 : mmOk (.nil : Tr Ob) 0 (cS ΓoB) mo_s14 = true := by kernel_rfl
end
end Go.Q

set_option maxRecDepth 100000
namespace Go.Q
noncomputable section
open Go.RowKit Go.Proofs
open Go.Z hiding cond_false get resF
theorem ok_mo_s15 : mmOk (.nil : Tr Ob) 0 (cS ΓoB) mo_s15 = true := by kernel_rfl
end
end Go.Q

