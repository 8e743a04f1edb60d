/- Part 33 of what the closing text rests on. -/
import Derived.Test.YtdamnoleoakehaaGreatDoorKO22
set_option maxRecDepth 100000
namespace Go.Q
noncomputable section
open Go.RowKit Go.Proofs
open Go.Z hiding cond_false get resF
theorem top_o3n_t : tvO (runG Γo3n 4 (memoG (.nil : Tr Ob) 0 (cN Γo3n true) msN3) [bootD, .c (.bool true), .s [.b 0]] sO) = true := by kernel_rfl
theorem top_o3n_f : tvO (runG Γo3n 4 (memoG (.nil : Tr Ob) 0 (cN Γo3n true) msN3) [bootD, .c (.bool false), .s [.b 0]] sO) = true := by kernel_rfl
end
end Go.Q

set_option maxRecDepth 100000
namespace Go.Q
noncomputable section
open Go.RowKit Go.Proofs
open Go.Z hiding cond_false get resF
theorem top_o3a_t : tvO (runG Γo3a 4 (memoG (.nil : Tr Ob) 0 (cN Γo3a false) msA3) [bootD, .c (.bool true), .s [.b 0]] sO) = true := by kernel_rfl
theorem top_o3a_f : tvO (runG Γo3a 4 (memoG (.nil : Tr Ob) 0 (cN Γo3a false) msA3) [bootD, .c (.bool false), .s [.b 0]] sO) = true := by kernel_rfl
end
end Go.Q

set_option maxRecDepth 100000
namespace Go.Q
noncomputable section
open Go.RowKit Go.Proofs
open Go.Z hiding cond_false get resF
theorem top_o3b_t : tvO (runG Γo3b 4 (memoG (.nil : Tr Ob) 0 (cN Γo3b false) msP) [bootD, .c (.bool true), .s [.b 0]] sO) = true := by kernel_rfl
theorem top_o3b_f : tvO (runG Γo3b 4 (memoG (.nil : Tr Ob) 0 (cN Γo3b false) msP) [bootD, .c (.bool false), .s [.b 0]] sO) = true := by kernel_rfl
end
end Go.Q

