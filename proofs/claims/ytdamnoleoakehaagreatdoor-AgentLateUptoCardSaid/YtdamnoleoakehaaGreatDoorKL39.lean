/- Part 39 of what the closing text rests on. -/
import Derived.Test.YtdamnoleoakehaaGreatDoorKL20
set_option maxRecDepth 100000
namespace Go.Q
noncomputable section
open Go.RowKit Go.Proofs
open Go.Z hiding cond_false get resF
noncomputable section
def Γ6 : Cx := ⟨[-1, -1, -1], [⟨1025, [(0, 1)]⟩], [], [], [], []⟩
def a6 : List DV := [.l 0 1 ⟨0, [(1, 1)]⟩ ⟨1025, [(0, 1)]⟩ (some ⟨0, [(2, 1)]⟩) (lit 0), .x 0]
theorem top6 : tvO (cS Γ6 8 a6 ⟨winB, .nil, 1, 1⟩) = true := by kernel_rfl
end
end
end Go.Q

