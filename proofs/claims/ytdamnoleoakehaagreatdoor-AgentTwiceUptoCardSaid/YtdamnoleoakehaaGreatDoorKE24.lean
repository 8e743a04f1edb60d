/- Part 24 of what the closing text rests on. -/
import Derived.Test.YtdamnoleoakehaaGreatDoorKE21
set_option maxRecDepth 100000
namespace Go.Q
noncomputable section
open Go.RowKit Go.Proofs
open Go.Z hiding cond_false get resF
theorem om0_6 : mmOk (.nil : Tr Ob) 1 (cS Γv0) m0_6 = true := by kernel_rfl
end
end Go.Q

set_option maxRecDepth 100000
namespace Go.Q
noncomputable section
open Go.RowKit Go.Proofs
open Go.Z hiding cond_false get resF
theorem om0_7 : mmOk (.nil : Tr Ob) 1 (cS Γv0) m0_7 = true := by kernel_rfl
end
end Go.Q

set_option maxRecDepth 100000
namespace Go.Q
noncomputable section
open Go.RowKit Go.Proofs
open Go.Z hiding cond_false get resF
theorem om0_8 : mmOk (.nil : Tr Ob) 1 (cS Γv0) m0_8 = true := by kernel_rfl
end
end Go.Q

set_option maxRecDepth 100000
namespace Go.Q
noncomputable section
open Go.RowKit Go.Proofs
open Go.Z hiding cond_false get resF
theorem top0_0 : tvO (runM Γv0 6 (.nil : Tr Ob) 1 [m0_0, m0_1, m0_2, m0_3, m0_4, m0_5, m0_6] [.l 0 1 ⟨0, [(1, 1)]⟩ (lit 0) (some ⟨0, [(2, 1)]⟩) ⟨0, [(1, 1)]⟩, .n .u32 ⟨0, [(3, 16777216), (4, 65536), (5, 256), (6, 1)]⟩, .c (.bool true)] ⟨.nil, .nil, 1, 1⟩) = true := by kernel_rfl
end
end Go.Q

set_option maxRecDepth 100000
namespace Go.Q
noncomputable section
open Go.RowKit Go.Proofs
open Go.Z hiding cond_false get resF
theorem top0_1 : tvO (runM Γv0 6 (.nil : Tr Ob) 1 [m0_0, m0_1, m0_2, m0_3, m0_4, m0_7, m0_8] [.l 0 1 ⟨0, [(1, 1)]⟩ (lit 0) (some ⟨0, [(2, 1)]⟩) ⟨0, [(1, 1)]⟩, .n .u32 ⟨0, [(3, 16777216), (4, 65536), (5, 256), (6, 1)]⟩, .c (.bool false)] ⟨.nil, .nil, 1, 1⟩) = true := by kernel_rfl
end
end Go.Q


