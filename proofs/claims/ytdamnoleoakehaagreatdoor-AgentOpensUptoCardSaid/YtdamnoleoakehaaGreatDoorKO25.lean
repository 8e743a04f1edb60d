/- Part 25 of what the closing text rests on. -/
import Derived.Test.YtdamnoleoakehaaGreatDoorKO22
set_option maxRecDepth 100000
namespace Go.Q
noncomputable section
open Go.RowKit Go.Proofs
open Go.Z hiding cond_false get resF
theorem ok_mo_a2 : mmOk (.nil : Tr Ob) 0 (cS Γo2a) mo_a2 = true := by kernel_rfl
end
end Go.Q

set_option maxRecDepth 100000
namespace Go.Q
noncomputable section
open Go.RowKit Go.Proofs
open Go.Z hiding cond_false get resF
theorem ok_mo_n2b : mmOk (.nil : Tr Ob) 0 (cN Γo2n true) mo_n2b = true := by kernel_rfl
end
end Go.Q

set_option maxRecDepth 100000
namespace Go.Q
noncomputable section
open Go.RowKit Go.Proofs
open Go.Z hiding cond_false get resF
theorem ok_mo_n2c : mmOk (.nil : Tr Ob) 0 (cN Γo2n true) mo_n2c = true := by kernel_rfl
end
end Go.Q

set_option maxRecDepth 100000
namespace Go.Q
noncomputable section
open Go.RowKit Go.Proofs
open Go.Z hiding cond_false get resF
theorem ok_mo_s20 : mmOk (.nil : Tr Ob) 0 (cS ΓoB) mo_s20 = true := by kernel_rfl
end
end Go.Q

set_option maxRecDepth 100000
namespace Go.Q
noncomputable section
open Go.RowKit Go.Proofs
open Go.Z hiding cond_false get resF
theorem ok_mo_s21 : mmOk (.nil : Tr Ob) 0 (cS ΓoB) mo_s21 = true := by kernel_rfl
end
end Go.Q

set_option maxRecDepth 100000
namespace Go.Q
noncomputable section
open Go.RowKit Go.Proofs
open Go.Z hiding cond_false get resF
theorem ok_mo_s22 : mmOk (.nil : Tr Ob) 0 (cS ΓoB) mo_s22 = true := by kernel_rfl
end
end Go.Q

set_option maxRecDepth 100000
namespace Go.Q
noncomputable section
open Go.RowKit Go.Proofs
open Go.Z hiding cond_false get resF
theorem ok_mo_s23 : mmOk (.nil : Tr Ob) 0 (cS ΓoB) mo_s23 = true := by kernel_rfl
end
end Go.Q

set_option maxRecDepth 100000
namespace Go.Q
noncomputable section
open Go.RowKit Go.Proofs
open Go.Z hiding cond_false get resF
theorem ok_mo_s24 : mmOk (.nil : Tr Ob) 0 (cS ΓoB) mo_s24 = true := by kernel_rfl
end
end Go.Q

set_option maxRecDepth 100000
namespace Go.Q
noncomputable section
open Go.RowKit Go.Proofs
open Go.Z hiding cond_false get resF
theorem ok_mo_s25 : mmOk (.nil : Tr Ob) 0 (cS ΓoB) mo_s25 = true := by kernel_rfl
end
end Go.Q

