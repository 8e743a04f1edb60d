/- Part 34 of what the closing text rests on. -/
import Derived.Test.YtdamnoleoakehaaGreatDoorKO22
set_option maxRecDepth 100000
namespace Go.Q
noncomputable section
open Go.RowKit Go.Proofs
open Go.Z hiding cond_false get resF
theorem top_o3c_t : tvO (runG Γo3c 4 (memoG (.nil : Tr Ob) 0 (cN Γo3c false) msP) [bootD, .c (.bool true), .s [.b 0]] sO) = true := by kernel_rfl
theorem top_o3c_f : tvO (runG Γo3c 4 (memoG (.nil : Tr Ob) 0 (cN Γo3c false) msP) [bootD, .c (.bool false), .s [.b 0]] sO) = true := by kernel_rfl
end
end Go.Q

set_option maxRecDepth 100000
namespace Go.Q
noncomputable section
open Go.RowKit Go.Proofs
open Go.Z hiding cond_false get resF
theorem top_o3d_t : tvO (runG Γo3d 4 (memoG (.nil : Tr Ob) 0 (cN Γo3d false) msP) [bootD, .c (.bool true), .s [.b 0]] sO) = true := by kernel_rfl
theorem top_o3d_f : tvO (runG Γo3d 4 (memoG (.nil : Tr Ob) 0 (cN Γo3d false) msP) [bootD, .c (.bool false), .s [.b 0]] sO) = true := by kernel_rfl
end
end Go.Q

set_option maxRecDepth 100000
namespace Go.Q
noncomputable section
open Go.RowKit Go.Proofs
open Go.Z hiding cond_false get resF
theorem top_o3e_t : tvO (runG Γo3e 4 (memoG (.nil : Tr Ob) 0 (cN Γo3e false) msP) [bootD, .c (.bool true), .s [.b 0]] sO) = true := by kernel_rfl
theorem top_o3e_f : tvO (runG Γo3e 4 (memoG (.nil : Tr Ob) 0 (cN Γo3e false) msP) [bootD, .c (.bool false), .s [.b 0]] sO) = true := by kernel_rfl
end
end Go.Q

