/- Part 32 of what the closing text rests on. -/
import Derived.Test.YtdamnoleoakehaaGreatDoorKE29
set_option maxRecDepth 100000
namespace Go.Q
noncomputable section
open Go.RowKit Go.Proofs
open Go.Z hiding cond_false get resF
theorem om2_6 : mmOk (winB) 1 (cS Γv2) m2_6 = true := by kernel_rfl
end
end Go.Q

set_option maxRecDepth 100000
namespace Go.Q
noncomputable section
open Go.RowKit Go.Proofs
open Go.Z hiding cond_false get resF
theorem om2_7 : mmOk (winB) 1 (cS Γv2) m2_7 = true := by kernel_rfl
end
end Go.Q

set_option maxRecDepth 100000
namespace Go.Q
noncomputable section
open Go.RowKit Go.Proofs
open Go.Z hiding cond_false get resF
theorem om2_8 : mmOk (winB) 1 (cS Γv2) m2_8 = true := by kernel_rfl
end
end Go.Q

set_option maxRecDepth 100000
namespace Go.Q
noncomputable section
open Go.RowKit Go.Proofs
open Go.Z hiding cond_false get resF
theorem top2_0 : tvO (runM Γv2 6 (winB) 1 [m2_0, m2_1, m2_2, m2_3, m2_4, m2_5, m2_6] [.l 0 1 ⟨0, [(1, 1)]⟩ ⟨2, [(0, 4)]⟩ (some ⟨0, [(2, 1)]⟩) (lit 0), .n .u32 ⟨0, [(3, 16777216), (4, 65536), (5, 256), (6, 1)]⟩, .c (.bool true)] ⟨winB, .nil, 1, 1⟩) = true := by kernel_rfl
end
end Go.Q

set_option maxRecDepth 100000
namespace Go.Q
noncomputable section
open Go.RowKit Go.Proofs
open Go.Z hiding cond_false get resF
theorem top2_1 : tvO (runM Γv2 6 (winB) 1 [m2_0, m2_1, m2_2, m2_3, m2_4, m2_7, m2_8] [.l 0 1 ⟨0, [(1, 1)]⟩ ⟨2, [(0, 4)]⟩ (some ⟨0, [(2, 1)]⟩) (lit 0), .n .u32 ⟨0, [(3, 16777216), (4, 65536), (5, 256), (6, 1)]⟩, .c (.bool false)] ⟨winB, .nil, 1, 1⟩) = true := by kernel_rfl
end
end Go.Q


