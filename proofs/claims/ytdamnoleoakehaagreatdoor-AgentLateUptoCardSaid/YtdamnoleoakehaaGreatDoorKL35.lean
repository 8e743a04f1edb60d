/- Part 35 of what the closing text rests on. -/
import Derived.Test.YtdamnoleoakehaaGreatDoorKL33
set_option maxRecDepth 100000
namespace Go.Q
noncomputable section
open Go.RowKit Go.Proofs
open Go.Z hiding cond_false get resF
theorem top4 : tvO (runL Γ4 8 11 0 winB 1 k4_0 k4_40 a4 ⟨winB, .nil, 1, 1⟩) = true := by kernel_rfl
end
end Go.Q

