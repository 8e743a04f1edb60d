/- Part 44 of what the closing text rests on. -/
import Derived.Test.YtdamnoleoakehaaGreatDoorKE41
set_option maxRecDepth 100000
namespace Go.Q
noncomputable section
open Go.RowKit Go.Proofs
open Go.Z hiding cond_false get resF
theorem om5_6 : mmOk (.nil : Tr Ob) 0 (cS Γv5) m5_6 = true := by kernel_rfl
end
end Go.Q

set_option maxRecDepth 100000
namespace Go.Q
noncomputable section
open Go.RowKit Go.Proofs
open Go.Z hiding cond_false get resF
theorem om5_7 : mmOk (.nil : Tr Ob) 0 (cS Γv5) m5_7 = true := by kernel_rfl
end
end Go.Q

set_option maxRecDepth 100000
namespace Go.Q
noncomputable section
open Go.RowKit Go.Proofs
open Go.Z hiding cond_false get resF
theorem om5_8 : mmOk (.nil : Tr Ob) 0 (cS Γv5) m5_8 = true := by kernel_rfl
end
end Go.Q

set_option maxRecDepth 100000
namespace Go.Q
noncomputable section
open Go.RowKit Go.Proofs
open Go.Z hiding cond_false get resF
theorem top5_0 : tvO (runM Γv5 6 (.nil : Tr Ob) 0 [m5_0, m5_1, m5_2, m5_3, m5_4, m5_5, m5_6] [.c (.slice none 0 0), .n .u32 ⟨0, [(3, 16777216), (4, 65536), (5, 256), (6, 1)]⟩, .c (.bool true)] ⟨.nil, .nil, 0, 0⟩) = true := by kernel_rfl
end
end Go.Q

set_option maxRecDepth 100000
namespace Go.Q
noncomputable section
open Go.RowKit Go.Proofs
open Go.Z hiding cond_false get resF
theorem top5_1 : tvO (runM Γv5 6 (.nil : Tr Ob) 0 [m5_0, m5_1, m5_2, m5_3, m5_4, m5_7, m5_8] [.c (.slice none 0 0), .n .u32 ⟨0, [(3, 16777216), (4, 65536), (5, 256), (6, 1)]⟩, .c (.bool false)] ⟨.nil, .nil, 0, 0⟩) = true := by kernel_rfl
end
end Go.Q


