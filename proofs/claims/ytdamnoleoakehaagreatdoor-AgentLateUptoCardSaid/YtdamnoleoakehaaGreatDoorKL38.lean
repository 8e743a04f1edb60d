/- Part 38 of what the closing text rests on. -/
import Derived.Test.YtdamnoleoakehaaGreatDoorKL36
set_option maxRecDepth 100000
namespace Go.Q
noncomputable section
open Go.RowKit Go.Proofs
open Go.Z hiding cond_false get resF
theorem top5 : tvO (runL Γ5 8 11 0 (.nil : Tr Ob) 0 k5_0 k5_40 a5 ⟨.nil, .nil, 0, 0⟩) = true := by kernel_rfl
end
end Go.Q

