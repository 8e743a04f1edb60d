/- Part 26 of what the closing text rests on. -/
import Derived.Test.YtdamnoleoakehaaGreatDoorKL24
set_option maxRecDepth 100000
namespace Go.Q
noncomputable section
open Go.RowKit Go.Proofs
open Go.Z hiding cond_false get resF
theorem one8 : oneL 8 11 = true := by kernel_rfl
theorem top1 : tvO (runL Γ1 8 11 0 winB 1 k1_0 k1_40 a1 ⟨winB, .nil, 1, 1⟩) = true := by kernel_rfl
end
end Go.Q

