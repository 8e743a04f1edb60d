/- Part 23 of what the closing text rests on. -/
import Derived.Test.YtdamnoleoakehaaGreatDoorKX21
set_option maxRecDepth 100000
namespace Go.Q
noncomputable section
open Go.RowKit Go.Proofs
open Go.Z hiding cond_false get resF
noncomputable section
def Γw1 : Cx := ⟨[0, 0, -1, 0, -1, -1], [⟨1, [(2, 1)]⟩], [], [], [], []⟩
def kw1 : Ck := k0W (.d (.l 0 1 ⟨0, [(4, 1)]⟩ ⟨1, [(2, 1)]⟩ (some ⟨0, [(5, 1)]⟩) ⟨0, [(4, 1)]⟩))
def ceW : Ck := ⟨badE, [], 30000⟩
end
theorem one11 : oneL 11 13 = true := by kernel_rfl
noncomputable section
end
theorem topw1 : tvO (runL Γw1 11 13 0 (grdW) 1 kw1 ceW [.l 0 1 ⟨0, [(4, 1)]⟩ ⟨1, [(2, 1)]⟩ (some ⟨0, [(5, 1)]⟩) ⟨0, [(4, 1)]⟩] ⟨grdW, .nil, 1, 1⟩) = true := by kernel_rfl
end
end Go.Q

