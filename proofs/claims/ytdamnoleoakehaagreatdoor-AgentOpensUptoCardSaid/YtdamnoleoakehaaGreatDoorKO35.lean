/- Part 35 of what the closing text rests on. -/
import Derived.Test.YtdamnoleoakehaaGreatDoorKO22
set_option maxRecDepth 100000
namespace Go.Q
noncomputable section
open Go.RowKit Go.Proofs
open Go.Z hiding cond_false get resF
theorem top_o4n_t : tvO (runG Γo4n 4 (memoG (.nil : Tr Ob) 0 (cN Γo4n true) msN4) [bootD, .c (.bool true), .s [.b 0]] sO) = true := by kernel_rfl
theorem top_o4n_f : tvO (runG Γo4n 4 (memoG (.nil : Tr Ob) 0 (cN Γo4n true) msN4) [bootD, .c (.bool false), .s [.b 0]] sO) = true := by kernel_rfl
end
end Go.Q

set_option maxRecDepth 100000
namespace Go.Q
noncomputable section
open Go.RowKit Go.Proofs
open Go.Z hiding cond_false get resF
theorem top_o4a_t : tvO (runG Γo4a 4 (memoG (.nil : Tr Ob) 0 (cN Γo4a false) msA4) [bootD, .c (.bool true), .s [.b 0]] sO) = true := by kernel_rfl
theorem top_o4a_f : tvO (runG Γo4a 4 (memoG (.nil : Tr Ob) 0 (cN Γo4a false) msA4) [bootD, .c (.bool false), .s [.b 0]] sO) = true := by kernel_rfl
end
end Go.Q

set_option maxRecDepth 100000
namespace Go.Q
noncomputable section
open Go.RowKit Go.Proofs
open Go.Z hiding cond_false get resF
theorem top_o4b_t : tvO (runG Γo4b 4 (memoG (.nil : Tr Ob) 0 (cN Γo4b false) msP) [bootD, .c (.bool true), .s [.b 0]] sO) = true := by kernel_rfl
theorem top_o4b_f : tvO (runG Γo4b 4 (memoG (.nil : Tr Ob) 0 (cN Γo4b false) msP) [bootD, .c (.bool false), .s [.b 0]] sO) = true := by kernel_rfl
end
end Go.Q

