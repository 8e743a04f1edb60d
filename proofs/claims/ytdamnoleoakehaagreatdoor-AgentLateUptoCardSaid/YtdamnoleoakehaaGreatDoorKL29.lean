/- Part 29 of what the closing text rests on. -/
import Derived.Test.YtdamnoleoakehaaGreatDoorKL27
set_option maxRecDepth 100000
namespace Go.Q
noncomputable section
open Go.RowKit Go.Proofs
open Go.Z hiding cond_false get resF
theorem top2 : tvO (runL Γ2 8 11 0 winB 1 k2_0 k2_40 a2 ⟨winB, .nil, 1, 1⟩) = true := by kernel_rfl
end
end Go.Q

