/- Part 34 of what the closing text rests on. -/
import Derived.Test.YtdamnoleoakehaaGreatDoorKL33
set_option maxRecDepth 100000
namespace Go.Q
noncomputable section
open Go.RowKit Go.Proofs
open Go.Z hiding cond_false get resF
theorem t4_0 : goK (bodyAt Γ4 8 11) (cS Γ4) (fun r => rOk r k4_13) 12 k4_0.e (k4_0.st winB 1) = true := by kernel_rfl
end
end Go.Q

set_option maxRecDepth 100000
namespace Go.Q
noncomputable section
open Go.RowKit Go.Proofs
open Go.Z hiding cond_false get resF
theorem t4_13 : goK (bodyAt Γ4 8 11) (cS Γ4) (fun r => rOk r k4_20) 6 k4_13.e (k4_13.st winB 1) = true := by kernel_rfl
end
end Go.Q

set_option maxRecDepth 100000
namespace Go.Q
noncomputable section
open Go.RowKit Go.Proofs
open Go.Z hiding cond_false get resF
theorem t4_20 : goK (bodyAt Γ4 8 11) (cS Γ4) (fun r => rOk r k4_26) 5 k4_20.e (k4_20.st winB 1) = true := by kernel_rfl
end
end Go.Q

set_option maxRecDepth 100000
namespace Go.Q
noncomputable section
open Go.RowKit Go.Proofs
open Go.Z hiding cond_false get resF
theorem t4_26 : goK (bodyAt Γ4 8 11) (cS Γ4) (fun r => rOk r k4_33) 6 k4_26.e (k4_26.st winB 1) = true := by kernel_rfl
end
end Go.Q

set_option maxRecDepth 100000
namespace Go.Q
noncomputable section
open Go.RowKit Go.Proofs
open Go.Z hiding cond_false get resF
theorem t4_33 : goK (bodyAt Γ4 8 11) (cS Γ4) (fun r => xOk 0 r k4_40) 6 k4_33.e (k4_33.st winB 1) = true := by kernel_rfl
end
end Go.Q

