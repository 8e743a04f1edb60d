/- Part 28 of what the closing text rests on. -/
import Derived.Test.YtdamnoleoakehaaGreatDoorKO22
set_option maxRecDepth 100000
namespace Go.Q
noncomputable section
open Go.RowKit Go.Proofs
open Go.Z hiding cond_false get resF
theorem ok_mo_a1n : mmOk (.nil : Tr Ob) 0 (cS Γo1n) mo_a1 = true := by kernel_rfl
end
end Go.Q

set_option maxRecDepth 100000
namespace Go.Q
noncomputable section
open Go.RowKit Go.Proofs
open Go.Z hiding cond_false get resF
theorem ok_mo_a2n : mmOk (.nil : Tr Ob) 0 (cS Γo2n) mo_a2 = true := by kernel_rfl
end
end Go.Q

set_option maxRecDepth 100000
namespace Go.Q
noncomputable section
open Go.RowKit Go.Proofs
open Go.Z hiding cond_false get resF
theorem ok_mo_a3n : mmOk (.nil : Tr Ob) 0 (cS Γo3n) mo_a3 = true := by kernel_rfl
end
end Go.Q

set_option maxRecDepth 100000
namespace Go.Q
noncomputable section
open Go.RowKit Go.Proofs
open Go.Z hiding cond_false get resF
theorem ok_mo_a4n : mmOk (.nil : Tr Ob) 0 (cS Γo4n) mo_a4 = true := by kernel_rfl
end
end Go.Q

