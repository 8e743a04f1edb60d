/- Part 30 of what the closing text rests on. -/
import Derived.Test.YtdamnoleoakehaaGreatDoorKO22
set_option maxRecDepth 100000
namespace Go.Q
noncomputable section
open Go.RowKit Go.Proofs
open Go.Z hiding cond_false get resF
theorem top_o1c_t : tvO (runG Γo1c 4 (memoG (.nil : Tr Ob) 0 (cN Γo1c false) msP) [bootD, .c (.bool true), .s [.b 0]] sO) = true := by kernel_rfl
theorem top_o1c_f : tvO (runG Γo1c 4 (memoG (.nil : Tr Ob) 0 (cN Γo1c false) msP) [bootD, .c (.bool false), .s [.b 0]] sO) = true := by kernel_rfl
end
end Go.Q

set_option maxRecDepth 100000
namespace Go.Q
noncomputable section
open Go.RowKit Go.Proofs
open Go.Z hiding cond_false get resF
theorem top_o1d_t : tvO (runG Γo1d 4 (memoG (.nil : Tr Ob) 0 (cN Γo1d false) msP) [bootD, .c (.bool true), .s [.b 0]] sO) = true := by kernel_rfl
theorem top_o1d_f : tvO (runG Γo1d 4 (memoG (.nil : Tr Ob) 0 (cN Γo1d false) msP) [bootD, .c (.bool false), .s [.b 0]] sO) = true := by kernel_rfl
end
end Go.Q

set_option maxRecDepth 100000
namespace Go.Q
noncomputable section
open Go.RowKit Go.Proofs
open Go.Z hiding cond_false get resF
theorem top_o1e_t : tvO (runG Γo1e 4 (memoG (.nil : Tr Ob) 0 (cN Γo1e false) msP) [bootD, .c (.bool true), .s [.b 0]] sO) = true := by kernel_rfl
theorem top_o1e_f : tvO (runG Γo1e 4 (memoG (.nil : Tr Ob) 0 (cN Γo1e false) msP) [bootD, .c (.bool false), .s [.b 0]] sO) = true := by kernel_rfl
end
end Go.Q

