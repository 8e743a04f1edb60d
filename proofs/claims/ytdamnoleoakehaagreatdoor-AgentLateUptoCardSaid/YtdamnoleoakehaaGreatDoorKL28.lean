/- Part 28 of what the closing text rests on. -/
import Derived.Test.YtdamnoleoakehaaGreatDoorKL27
set_option maxRecDepth 100000
namespace Go.Q
noncomputable section
open Go.RowKit Go.Proofs
open Go.Z hiding cond_false get resF
theorem t2_0 : goK (bodyAt Γ2 8 11) (cS Γ2) (fun r => rOk r k2_13) 12 k2_0.e (k2_0.st winB 1) = true := by kernel_rfl
end
end Go.Q

set_option maxRecDepth 100000
namespace Go.Q
noncomputable section
open Go.RowKit Go.Proofs
open Go.Z hiding cond_false get resF
theorem t2_13 : goK (bodyAt Γ2 8 11) (cS Γ2) (fun r => rOk r k2_20) 6 k2_13.e (k2_13.st winB 1) = true := by kernel_rfl
end
end Go.Q

set_option maxRecDepth 100000
namespace Go.Q
noncomputable section
open Go.RowKit Go.Proofs
open Go.Z hiding cond_false get resF
theorem t2_20 : goK (bodyAt Γ2 8 11) (cS Γ2) (fun r => rOk r k2_26) 5 k2_20.e (k2_20.st winB 1) = true := by kernel_rfl
end
end Go.Q

set_option maxRecDepth 100000
namespace Go.Q
noncomputable section
open Go.RowKit Go.Proofs
open Go.Z hiding cond_false get resF
theorem t2_26 : goK (bodyAt Γ2 8 11) (cS Γ2) (fun r => rOk r k2_33) 6 k2_26.e (k2_26.st winB 1) = true := by kernel_rfl
end
end Go.Q

set_option maxRecDepth 100000
namespace Go.Q
noncomputable section
open Go.RowKit Go.Proofs
open Go.Z hiding cond_false get resF
theorem t2_33 : goK (bodyAt Γ2 8 11) (cS Γ2) (fun r => xOk 0 r k2_40) 6 k2_33.e (k2_33.st winB 1) = true := by kernel_rfl
end
end Go.Q

