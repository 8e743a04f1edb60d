/- Part 37 of what the closing text rests on. -/
import Derived.Test.YtdamnoleoakehaaGreatDoorKO22
set_option maxRecDepth 100000
namespace Go.Q
noncomputable section
open Go.RowKit Go.Proofs
open Go.Z hiding cond_false get resF
theorem top_o0l_t : tvO (runG Γo0l 4 (memoG (.nil : Tr Ob) 0 (cS Γo0l) msP) [bootD, .c (.bool true), .s [.b 0]] sO) = true := by kernel_rfl
theorem top_o0l_f : tvO (runG Γo0l 4 (memoG (.nil : Tr Ob) 0 (cS Γo0l) msP) [bootD, .c (.bool false), .s [.b 0]] sO) = true := by kernel_rfl
end
end Go.Q

set_option maxRecDepth 100000
namespace Go.Q
noncomputable section
open Go.RowKit Go.Proofs
open Go.Z hiding cond_false get resF
theorem top_oA_t : tvO (runG ΓoB 4 (memoG (.nil : Tr Ob) 0 (cS ΓoB) msP) [bootD, .c (.bool true), .s [.y (lit 97)]] sO) = true := by kernel_rfl
theorem top_oA_f : tvO (runG ΓoB 4 (memoG (.nil : Tr Ob) 0 (cS ΓoB) msP) [bootD, .c (.bool false), .s [.y (lit 97)]] sO) = true := by kernel_rfl
end
end Go.Q

set_option maxRecDepth 100000
namespace Go.Q
noncomputable section
open Go.RowKit Go.Proofs
open Go.Z hiding cond_false get resF
theorem top_oE_t : tvO (runG ΓoB 4 (memoG (.nil : Tr Ob) 0 (cS ΓoB) msP) [bootD, .c (.bool true), .s []] sO) = true := by kernel_rfl
theorem top_oE_f : tvO (runG ΓoB 4 (memoG (.nil : Tr Ob) 0 (cS ΓoB) msP) [bootD, .c (.bool false), .s []] sO) = true := by kernel_rfl
end
end Go.Q

