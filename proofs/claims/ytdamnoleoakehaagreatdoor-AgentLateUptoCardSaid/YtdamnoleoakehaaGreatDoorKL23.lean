/- Part 23 of what the closing text rests on. -/
import Derived.Test.YtdamnoleoakehaaGreatDoorKL21
set_option maxRecDepth 100000
namespace Go.Q
noncomputable section
open Go.RowKit Go.Proofs
open Go.Z hiding cond_false get resF
theorem top0 : tvO (runL Γ0 8 11 0 (.nil : Tr Ob) 1 k0_0 k0_40 a0 ⟨.nil, .nil, 1, 1⟩) = true := by kernel_rfl
end
end Go.Q

