/- Part 40 of what the closing text rests on. -/
import Derived.Test.YtdamnoleoakehaaGreatDoorKE37
set_option maxRecDepth 100000
namespace Go.Q
noncomputable section
open Go.RowKit Go.Proofs
open Go.Z hiding cond_false get resF
theorem om4_6 : mmOk (winB) 1 (cS Γv4) m4_6 = true := by kernel_rfl
end
end Go.Q

set_option maxRecDepth 100000
namespace Go.Q
noncomputable section
open Go.RowKit Go.Proofs
open Go.Z hiding cond_false get resF
theorem om4_7 : mmOk (winB) 1 (cS Γv4) m4_7 = true := by kernel_rfl
end
end Go.Q

set_option maxRecDepth 100000
namespace Go.Q
noncomputable section
open Go.RowKit Go.Proofs
open Go.Z hiding cond_false get resF
theorem om4_8 : mmOk (winB) 1 (cS Γv4) m4_8 = true := by kernel_rfl
end
end Go.Q

set_option maxRecDepth 100000
namespace Go.Q
noncomputable section
open Go.RowKit Go.Proofs
open Go.Z hiding cond_false get resF
theorem top4_0 : tvO (runM Γv4 6 (winB) 1 [m4_0, m4_1, m4_2, m4_3, m4_4, m4_5, m4_6] [.l 0 1 ⟨0, [(1, 1)]⟩ ⟨4, [(0, 4)]⟩ (some ⟨0, [(2, 1)]⟩) (lit 0), .n .u32 ⟨0, [(3, 16777216), (4, 65536), (5, 256), (6, 1)]⟩, .c (.bool true)] ⟨winB, .nil, 1, 1⟩) = true := by kernel_rfl
end
end Go.Q

set_option maxRecDepth 100000
namespace Go.Q
noncomputable section
open Go.RowKit Go.Proofs
open Go.Z hiding cond_false get resF
theorem top4_1 : tvO (runM Γv4 6 (winB) 1 [m4_0, m4_1, m4_2, m4_3, m4_4, m4_7, m4_8] [.l 0 1 ⟨0, [(1, 1)]⟩ ⟨4, [(0, 4)]⟩ (some ⟨0, [(2, 1)]⟩) (lit 0), .n .u32 ⟨0, [(3, 16777216), (4, 65536), (5, 256), (6, 1)]⟩, .c (.bool false)] ⟨winB, .nil, 1, 1⟩) = true := by kernel_rfl
end
end Go.Q


