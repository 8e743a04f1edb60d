/- Part 31 of what the closing text rests on. -/
import Derived.Test.YtdamnoleoakehaaGreatDoorKO22
set_option maxRecDepth 100000
namespace Go.Q
noncomputable section
open Go.RowKit Go.Proofs
open Go.Z hiding cond_false get resF
theorem top_o2n_t : tvO (runG Γo2n 4 (memoG (.nil : Tr Ob) 0 (cN Γo2n true) msN2) [bootD, .c (.bool true), .s [.b 0]] sO) = true := by kernel_rfl
theorem top_o2n_f : tvO (runG Γo2n 4 (memoG (.nil : Tr Ob) 0 (cN Γo2n true) msN2) [bootD, .c (.bool false), .s [.b 0]] sO) = true := by kernel_rfl
end
end Go.Q

set_option maxRecDepth 100000
namespace Go.Q
noncomputable section
open Go.RowKit Go.Proofs
open Go.Z hiding cond_false get resF
theorem top_o2a_t : tvO (runG Γo2a 4 (memoG (.nil : Tr Ob) 0 (cN Γo2a false) msA2) [bootD, .c (.bool true), .s [.b 0]] sO) = true := by kernel_rfl
theorem top_o2a_f : tvO (runG Γo2a 4 (memoG (.nil : Tr Ob) 0 (cN Γo2a false) msA2) [bootD, .c (.bool false), .s [.b 0]] sO) = true := by kernel_rfl
end
end Go.Q

set_option maxRecDepth 100000
namespace Go.Q
noncomputable section
open Go.RowKit Go.Proofs
open Go.Z hiding cond_false get resF
theorem top_o2b_t : tvO (runG Γo2b 4 (memoG (.nil : Tr Ob) 0 (cN Γo2b false) msP) [bootD, .c (.bool true), .s [.b 0]] sO) = true := by kernel_rfl
theorem top_o2b_f : tvO (runG Γo2b 4 (memoG (.nil : Tr Ob) 0 (cN Γo2b false) msP) [bootD, .c (.bool false), .s [.b 0]] sO) = true := by kernel_rfl
end
end Go.Q

