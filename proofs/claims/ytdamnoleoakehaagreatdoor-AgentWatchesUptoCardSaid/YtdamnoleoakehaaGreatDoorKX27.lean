/- Part 27 of what the closing text rests on. -/
import Derived.Test.YtdamnoleoakehaaGreatDoorKX23
set_option maxRecDepth 100000
namespace Go.Q
noncomputable section
open Go.RowKit Go.Proofs
open Go.Z hiding cond_false get resF
noncomputable section
def Γw3 : Cx := ⟨[0, 0, -1, 0, -1, -1], [], [], [], [], []⟩
def kw3 : Ck := k0W (.d (.c (.slice none 0 0)))
end
theorem topw3 : tvO (runL Γw3 11 13 0 (.nil : Tr Ob) 1 kw3 ceW [.c (.slice none 0 0)] ⟨.nil, .nil, 1, 1⟩) = true := by kernel_rfl
end
end Go.Q

