/- Part 32 of what the closing text rests on. -/
import Derived.Test.YtdamnoleoakehaaGreatDoorKL30
set_option maxRecDepth 100000
namespace Go.Q
noncomputable section
open Go.RowKit Go.Proofs
open Go.Z hiding cond_false get resF
theorem top3 : tvO (runL Γ3 8 11 0 winB 1 k3_0 k3_40 a3 ⟨winB, .nil, 1, 1⟩) = true := by kernel_rfl
end
end Go.Q

