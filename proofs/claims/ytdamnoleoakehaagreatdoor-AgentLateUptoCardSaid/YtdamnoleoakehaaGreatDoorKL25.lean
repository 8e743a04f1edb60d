/- Part 25 of what the closing text rests on. -/
import Derived.Test.YtdamnoleoakehaaGreatDoorKL24
set_option maxRecDepth 100000
namespace Go.Q
noncomputable section
open Go.RowKit Go.Proofs
open Go.Z hiding cond_false get resF
theorem t1_0 : goK (bodyAt Γ1 8 11) (cS Γ1) (fun r => rOk r k1_13) 12 k1_0.e (k1_0.st winB 1) = true := by kernel_rfl
end
end Go.Q

set_option maxRecDepth 100000
namespace Go.Q
noncomputable section
open Go.RowKit Go.Proofs
open Go.Z hiding cond_false get resF
theorem t1_13 : goK (bodyAt Γ1 8 11) (cS Γ1) (fun r => rOk r k1_20) 6 k1_13.e (k1_13.st winB 1) = true := by kernel_rfl
end
end Go.Q

set_option maxRecDepth 100000
namespace Go.Q
noncomputable section
open Go.RowKit Go.Proofs
open Go.Z hiding cond_false get resF
theorem t1_20 : goK (bodyAt Γ1 8 11) (cS Γ1) (fun r => rOk r k1_26) 5 k1_20.e (k1_20.st winB 1) = true := by kernel_rfl
end
end Go.Q

set_option maxRecDepth 100000
namespace Go.Q
noncomputable section
open Go.RowKit Go.Proofs
open Go.Z hiding cond_false get resF
theorem t1_26 : goK (bodyAt Γ1 8 11) (cS Γ1) (fun r => rOk r k1_33) 6 k1_26.e (k1_26.st winB 1) = true := by kernel_rfl
end
end Go.Q

set_option maxRecDepth 100000
namespace Go.Q
noncomputable section
open Go.RowKit Go.Proofs
open Go.Z hiding cond_false get resF
theorem t1_33 : goK (bodyAt Γ1 8 11) (cS Γ1) (fun r => xOk 0 r k1_40) 6 k1_33.e (k1_33.st winB 1) = true := by kernel_rfl
end
end Go.Q

