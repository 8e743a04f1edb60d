/- Part 36 of what the closing text rests on. -/
import Derived.Test.YtdamnoleoakehaaGreatDoorKO22
set_option maxRecDepth 100000
namespace Go.Q
noncomputable section
open Go.RowKit Go.Proofs
open Go.Z hiding cond_false get resF
theorem top_o4c_t : tvO (runG Γo4c 4 (memoG (.nil : Tr Ob) 0 (cN Γo4c false) msP) [bootD, .c (.bool true), .s [.b 0]] sO) = true := by kernel_rfl
theorem top_o4c_f : tvO (runG Γo4c 4 (memoG (.nil : Tr Ob) 0 (cN Γo4c false) msP) [bootD, .c (.bool false), .s [.b 0]] sO) = true := by kernel_rfl
end
end Go.Q

set_option maxRecDepth 100000
namespace Go.Q
noncomputable section
open Go.RowKit Go.Proofs
open Go.Z hiding cond_false get resF
theorem top_o4d_t : tvO (runG Γo4d 4 (memoG (.nil : Tr Ob) 0 (cN Γo4d false) msP) [bootD, .c (.bool true), .s [.b 0]] sO) = true := by kernel_rfl
theorem top_o4d_f : tvO (runG Γo4d 4 (memoG (.nil : Tr Ob) 0 (cN Γo4d false) msP) [bootD, .c (.bool false), .s [.b 0]] sO) = true := by kernel_rfl
end
end Go.Q

set_option maxRecDepth 100000
namespace Go.Q
noncomputable section
open Go.RowKit Go.Proofs
open Go.Z hiding cond_false get resF
theorem top_o4e_t : tvO (runG Γo4e 4 (memoG (.nil : Tr Ob) 0 (cN Γo4e false) msP) [bootD, .c (.bool true), .s [.b 0]] sO) = true := by kernel_rfl
theorem top_o4e_f : tvO (runG Γo4e 4 (memoG (.nil : Tr Ob) 0 (cN Γo4e false) msP) [bootD, .c (.bool false), .s [.b 0]] sO) = true := by kernel_rfl
end
end Go.Q

