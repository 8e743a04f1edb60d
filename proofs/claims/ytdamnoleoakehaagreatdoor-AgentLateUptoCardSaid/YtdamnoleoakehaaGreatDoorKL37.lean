/- Part 37 of what the closing text rests on. -/
import Derived.Test.YtdamnoleoakehaaGreatDoorKL36
set_option maxRecDepth 100000
namespace Go.Q
noncomputable section
open Go.RowKit Go.Proofs
open Go.Z hiding cond_false get resF
theorem t5_0 : goK (bodyAt Γ5 8 11) (cS Γ5) (fun r => rOk r k5_13) 12 k5_0.e (k5_0.st (.nil : Tr Ob) 0) = true := by kernel_rfl
end
end Go.Q

set_option maxRecDepth 100000
namespace Go.Q
noncomputable section
open Go.RowKit Go.Proofs
open Go.Z hiding cond_false get resF
theorem t5_13 : goK (bodyAt Γ5 8 11) (cS Γ5) (fun r => rOk r k5_20) 6 k5_13.e (k5_13.st (.nil : Tr Ob) 0) = true := by kernel_rfl
end
end Go.Q

set_option maxRecDepth 100000
namespace Go.Q
noncomputable section
open Go.RowKit Go.Proofs
open Go.Z hiding cond_false get resF
theorem t5_20 : goK (bodyAt Γ5 8 11) (cS Γ5) (fun r => rOk r k5_26) 5 k5_20.e (k5_20.st (.nil : Tr Ob) 0) = true := by kernel_rfl
end
end Go.Q

set_option maxRecDepth 100000
namespace Go.Q
noncomputable section
open Go.RowKit Go.Proofs
open Go.Z hiding cond_false get resF
theorem t5_26 : goK (bodyAt Γ5 8 11) (cS Γ5) (fun r => rOk r k5_33) 6 k5_26.e (k5_26.st (.nil : Tr Ob) 0) = true := by kernel_rfl
end
end Go.Q

set_option maxRecDepth 100000
namespace Go.Q
noncomputable section
open Go.RowKit Go.Proofs
open Go.Z hiding cond_false get resF
theorem t5_33 : goK (bodyAt Γ5 8 11) (cS Γ5) (fun r => xOk 0 r k5_40) 6 k5_33.e (k5_33.st (.nil : Tr Ob) 0) = true := by kernel_rfl
end
end Go.Q

