/- Part 36 of what the closing text rests on. -/
import Derived.Test.YtdamnoleoakehaaGreatDoorKE33
set_option maxRecDepth 100000
namespace Go.Q
noncomputable section
open Go.RowKit Go.Proofs
open Go.Z hiding cond_false get resF
theorem om3_6 : mmOk (winB) 1 (cS Γv3) m3_6 = true := by kernel_rfl
end
end Go.Q

set_option maxRecDepth 100000
namespace Go.Q
noncomputable section
open Go.RowKit Go.Proofs
open Go.Z hiding cond_false get resF
theorem om3_7 : mmOk (winB) 1 (cS Γv3) m3_7 = true := by kernel_rfl
end
end Go.Q

set_option maxRecDepth 100000
namespace Go.Q
noncomputable section
open Go.RowKit Go.Proofs
open Go.Z hiding cond_false get resF
theorem om3_8 : mmOk (winB) 1 (cS Γv3) m3_8 = true := by kernel_rfl
end
end Go.Q

set_option maxRecDepth 100000
namespace Go.Q
noncomputable section
open Go.RowKit Go.Proofs
open Go.Z hiding cond_false get resF
theorem top3_0 : tvO (runM Γv3 6 (winB) 1 [m3_0, m3_1, m3_2, m3_3, m3_4, m3_5, m3_6] [.l 0 1 ⟨0, [(1, 1)]⟩ ⟨3, [(0, 4)]⟩ (some ⟨0, [(2, 1)]⟩) (lit 0), .n .u32 ⟨0, [(3, 16777216), (4, 65536), (5, 256), (6, 1)]⟩, .c (.bool true)] ⟨winB, .nil, 1, 1⟩) = true := by kernel_rfl
end
end Go.Q

set_option maxRecDepth 100000
namespace Go.Q
noncomputable section
open Go.RowKit Go.Proofs
open Go.Z hiding cond_false get resF
theorem top3_1 : tvO (runM Γv3 6 (winB) 1 [m3_0, m3_1, m3_2, m3_3, m3_4, m3_7, m3_8] [.l 0 1 ⟨0, [(1, 1)]⟩ ⟨3, [(0, 4)]⟩ (some ⟨0, [(2, 1)]⟩) (lit 0), .n .u32 ⟨0, [(3, 16777216), (4, 65536), (5, 256), (6, 1)]⟩, .c (.bool false)] ⟨winB, .nil, 1, 1⟩) = true := by kernel_rfl
end
end Go.Q


