/- Part 28 of what the closing text rests on. -/
import Derived.Test.YtdamnoleoakehaaGreatDoorKE25
set_option maxRecDepth 100000
namespace Go.Q
noncomputable section
open Go.RowKit Go.Proofs
open Go.Z hiding cond_false get resF
theorem om1_6 : mmOk (winB) 1 (cS Γv1) m1_6 = true := by kernel_rfl
end
end Go.Q

set_option maxRecDepth 100000
namespace Go.Q
noncomputable section
open Go.RowKit Go.Proofs
open Go.Z hiding cond_false get resF
theorem om1_7 : mmOk (winB) 1 (cS Γv1) m1_7 = true := by kernel_rfl
end
end Go.Q

set_option maxRecDepth 100000
namespace Go.Q
noncomputable section
open Go.RowKit Go.Proofs
open Go.Z hiding cond_false get resF
theorem om1_8 : mmOk (winB) 1 (cS Γv1) m1_8 = true := by kernel_rfl
end
end Go.Q

set_option maxRecDepth 100000
namespace Go.Q
noncomputable section
open Go.RowKit Go.Proofs
open Go.Z hiding cond_false get resF
theorem top1_0 : tvO (runM Γv1 6 (winB) 1 [m1_0, m1_1, m1_2, m1_3, m1_4, m1_5, m1_6] [.l 0 1 ⟨0, [(1, 1)]⟩ ⟨1, [(0, 4)]⟩ (some ⟨0, [(2, 1)]⟩) (lit 0), .n .u32 ⟨0, [(3, 16777216), (4, 65536), (5, 256), (6, 1)]⟩, .c (.bool true)] ⟨winB, .nil, 1, 1⟩) = true := by kernel_rfl
end
end Go.Q

set_option maxRecDepth 100000
namespace Go.Q
noncomputable section
open Go.RowKit Go.Proofs
open Go.Z hiding cond_false get resF
theorem top1_1 : tvO (runM Γv1 6 (winB) 1 [m1_0, m1_1, m1_2, m1_3, m1_4, m1_7, m1_8] [.l 0 1 ⟨0, [(1, 1)]⟩ ⟨1, [(0, 4)]⟩ (some ⟨0, [(2, 1)]⟩) (lit 0), .n .u32 ⟨0, [(3, 16777216), (4, 65536), (5, 256), (6, 1)]⟩, .c (.bool false)] ⟨winB, .nil, 1, 1⟩) = true := by kernel_rfl
end
end Go.Q


