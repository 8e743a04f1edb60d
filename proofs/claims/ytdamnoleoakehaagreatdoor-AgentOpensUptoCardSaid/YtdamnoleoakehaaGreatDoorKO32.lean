/- Part 32 of what the closing text rests on. -/
import Derived.Test.YtdamnoleoakehaaGreatDoorKO22
set_option maxRecDepth 100000
namespace Go.Q
noncomputable section
open Go.RowKit Go.Proofs
open Go.Z hiding cond_false get resF
theorem top_o2c_t : tvO (runG Γo2c 4 (memoG (.nil : Tr Ob) 0 (cN Γo2c false) msP) [bootD, .c (.bool true), .s [.b 0]] sO) = true := by kernel_rfl
theorem top_o2c_f : tvO (runG Γo2c 4 (memoG (.nil : Tr Ob) 0 (cN Γo2c false) msP) [bootD, .c (.bool false), .s [.b 0]] sO) = true := by kernel_rfl
end
end Go.Q

set_option maxRecDepth 100000
namespace Go.Q
noncomputable section
open Go.RowKit Go.Proofs
open Go.Z hiding cond_false get resF
theorem top_o2d_t : tvO (runG Γo2d 4 (memoG (.nil : Tr Ob) 0 (cN Γo2d false) msP) [bootD, .c (.bool true), .s [.b 0]] sO) = true := by kernel_rfl
theorem top_o2d_f : tvO (runG Γo2d 4 (memoG (.nil : Tr Ob) 0 (cN Γo2d false) msP) [bootD, .c (.bool false), .s [.b 0]] sO) = true := by kernel_rfl
end
end Go.Q

set_option maxRecDepth 100000
namespace Go.Q
noncomputable section
open Go.RowKit Go.Proofs
open Go.Z hiding cond_false get resF
theorem top_o2e_t : tvO (runG Γo2e 4 (memoG (.nil : Tr Ob) 0 (cN Γo2e false) msP) [bootD, .c (.bool true), .s [.b 0]] sO) = true := by kernel_rfl
theorem top_o2e_f : tvO (runG Γo2e 4 (memoG (.nil : Tr Ob) 0 (cN Γo2e false) msP) [bootD, .c (.bool false), .s [.b 0]] sO) = true := by kernel_rfl
end
end Go.Q

