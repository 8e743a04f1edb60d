/- Part 26 of what the closing text rests on. -/
import Derived.Test.YtdamnoleoakehaaGreatDoorKX23
set_option maxRecDepth 100000
namespace Go.Q
noncomputable section
open Go.RowKit Go.Proofs
open Go.Z hiding cond_false get resF
noncomputable section
def Γw2 : Cx := ⟨[0, 0, -1, 0, -1, -1], [], [], [], [], []⟩
def kw2 : Ck := k0W (.d (.l 0 1 ⟨0, [(4, 1)]⟩ ⟨0, [(2, 1)]⟩ (some ⟨0, [(5, 1)]⟩) ⟨0, [(4, 1)]⟩))
end
theorem topw2 : tvO (runL Γw2 11 13 0 (.nil : Tr Ob) 1 kw2 ceW [.l 0 1 ⟨0, [(4, 1)]⟩ ⟨0, [(2, 1)]⟩ (some ⟨0, [(5, 1)]⟩) ⟨0, [(4, 1)]⟩] ⟨.nil, .nil, 1, 1⟩) = true := by kernel_rfl
end
end Go.Q

