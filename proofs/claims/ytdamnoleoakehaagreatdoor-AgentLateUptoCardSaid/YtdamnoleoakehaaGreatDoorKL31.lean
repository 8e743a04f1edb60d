/- Part 31 of what the closing text rests on. -/
import Derived.Test.YtdamnoleoakehaaGreatDoorKL30
set_option maxRecDepth 100000
namespace Go.Q
noncomputable section
open Go.RowKit Go.Proofs
open Go.Z hiding cond_false get resF
theorem t3_0 : goK (bodyAt Γ3 8 11) (cS Γ3) (fun r => rOk r k3_13) 12 k3_0.e (k3_0.st winB 1) = true := by kernel_rfl
end
end Go.Q

set_option maxRecDepth 100000
namespace Go.Q
noncomputable section
open Go.RowKit Go.Proofs
open Go.Z hiding cond_false get resF
theorem t3_13 : goK (bodyAt Γ3 8 11) (cS Γ3) (fun r => rOk r k3_20) 6 k3_13.e (k3_13.st winB 1) = true := by kernel_rfl
end
end Go.Q

set_option maxRecDepth 100000
namespace Go.Q
noncomputable section
open Go.RowKit Go.Proofs
open Go.Z hiding cond_false get resF
theorem t3_20 : goK (bodyAt Γ3 8 11) (cS Γ3) (fun r => rOk r k3_26) 5 k3_20.e (k3_20.st winB 1) = true := by kernel_rfl
end
end Go.Q

set_option maxRecDepth 100000
namespace Go.Q
noncomputable section
open Go.RowKit Go.Proofs
open Go.Z hiding cond_false get resF
theorem t3_26 : goK (bodyAt Γ3 8 11) (cS Γ3) (fun r => rOk r k3_33) 6 k3_26.e (k3_26.st winB 1) = true := by kernel_rfl
end
end Go.Q

set_option maxRecDepth 100000
namespace Go.Q
noncomputable section
open Go.RowKit Go.Proofs
open Go.Z hiding cond_false get resF
theorem t3_33 : goK (bodyAt Γ3 8 11) (cS Γ3) (fun r => xOk 0 r k3_40) 6 k3_33.e (k3_33.st winB 1) = true := by kernel_rfl
end
end Go.Q

