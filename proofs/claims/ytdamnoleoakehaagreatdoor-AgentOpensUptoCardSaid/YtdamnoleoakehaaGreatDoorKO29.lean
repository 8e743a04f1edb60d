/- Part 29 of what the closing text rests on. -/
import Derived.Test.YtdamnoleoakehaaGreatDoorKO22
set_option maxRecDepth 100000
namespace Go.Q
noncomputable section
open Go.RowKit Go.Proofs
open Go.Z hiding cond_false get resF
theorem top_o1n_t : tvO (runG Γo1n 4 (memoG (.nil : Tr Ob) 0 (cN Γo1n true) msN1) [bootD, .c (.bool true), .s [.b 0]] sO) = true := by kernel_rfl
theorem top_o1n_f : tvO (runG Γo1n 4 (memoG (.nil : Tr Ob) 0 (cN Γo1n true) msN1) [bootD, .c (.bool false), .s [.b 0]] sO) = true := by kernel_rfl
end
end Go.Q

set_option maxRecDepth 100000
namespace Go.Q
noncomputable section
open Go.RowKit Go.Proofs
open Go.Z hiding cond_false get resF
theorem top_o1a_t : tvO (runG Γo1a 4 (memoG (.nil : Tr Ob) 0 (cN Γo1a false) msA1) [bootD, .c (.bool true), .s [.b 0]] sO) = true := by kernel_rfl
theorem top_o1a_f : tvO (runG Γo1a 4 (memoG (.nil : Tr Ob) 0 (cN Γo1a false) msA1) [bootD, .c (.bool false), .s [.b 0]] sO) = true := by kernel_rfl
end
end Go.Q

set_option maxRecDepth 100000
namespace Go.Q
noncomputable section
open Go.RowKit Go.Proofs
open Go.Z hiding cond_false get resF
theorem top_o1b_t : tvO (runG Γo1b 4 (memoG (.nil : Tr Ob) 0 (cN Γo1b false) msP) [bootD, .c (.bool true), .s [.b 0]] sO) = true := by kernel_rfl
theorem top_o1b_f : tvO (runG Γo1b 4 (memoG (.nil : Tr Ob) 0 (cN Γo1b false) msP) [bootD, .c (.bool false), .s [.b 0]] sO) = true := by kernel_rfl
end
end Go.Q

