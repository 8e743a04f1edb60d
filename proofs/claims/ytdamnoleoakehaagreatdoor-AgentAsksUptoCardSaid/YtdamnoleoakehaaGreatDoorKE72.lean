/- Part 72 of what the closing text rests on. -/
import Derived.Test.YtdamnoleoakehaaGreatDoorKE50
set_option maxRecDepth 100000
namespace Go.Q
noncomputable section
open Go.RowKit Go.Proofs
open Go.Z hiding cond_false get resF
noncomputable section
def Γa6 : Cx := ⟨[-1, -1, -1], [⟨1025, [(0, 1)]⟩], [], [], [], []⟩
def aa6 : List DV := [.l 0 1 ⟨0, [(1, 1)]⟩ ⟨1025, [(0, 1)]⟩ (some ⟨0, [(2, 1)]⟩) (lit 0), .x 0]
theorem topa6 : tvO (cS Γa6 5 aa6 ⟨winB, .nil, 1, 1⟩) = true := by kernel_rfl
end
end
end Go.Q


