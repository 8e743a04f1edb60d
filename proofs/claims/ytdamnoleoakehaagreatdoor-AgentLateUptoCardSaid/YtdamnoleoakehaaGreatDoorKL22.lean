/- Part 22 of what the closing text rests on. -/
import Derived.Test.YtdamnoleoakehaaGreatDoorKL21
set_option maxRecDepth 100000
namespace Go.Q
noncomputable section
open Go.RowKit Go.Proofs
open Go.Z hiding cond_false get resF
theorem t0_0 : goK (bodyAt Γ0 8 11) (cS Γ0) (fun r => rOk r k0_13) 12 k0_0.e (k0_0.st (.nil : Tr Ob) 1) = true := by kernel_rfl
end
end Go.Q

set_option maxRecDepth 100000
namespace Go.Q
noncomputable section
open Go.RowKit Go.Proofs
open Go.Z hiding cond_false get resF
theorem t0_13 : goK (bodyAt Γ0 8 11) (cS Γ0) (fun r => rOk r k0_20) 6 k0_13.e (k0_13.st (.nil : Tr Ob) 1) = true := by kernel_rfl
end
end Go.Q

set_option maxRecDepth 100000
namespace Go.Q
noncomputable section
open Go.RowKit Go.Proofs
open Go.Z hiding cond_false get resF
theorem t0_20 : goK (bodyAt Γ0 8 11) (cS Γ0) (fun r => rOk r k0_26) 5 k0_20.e (k0_20.st (.nil : Tr Ob) 1) = true := by kernel_rfl
end
end Go.Q

set_option maxRecDepth 100000
namespace Go.Q
noncomputable section
open Go.RowKit Go.Proofs
open Go.Z hiding cond_false get resF
theorem t0_26 : goK (bodyAt Γ0 8 11) (cS Γ0) (fun r => rOk r k0_33) 6 k0_26.e (k0_26.st (.nil : Tr Ob) 1) = true := by kernel_rfl
end
end Go.Q

set_option maxRecDepth 100000
namespace Go.Q
noncomputable section
open Go.RowKit Go.Proofs
open Go.Z hiding cond_false get resF
theorem t0_33 : goK (bodyAt Γ0 8 11) (cS Γ0) (fun r => xOk 0 r k0_40) 6 k0_33.e (k0_33.st (.nil : Tr Ob) 1) = true := by kernel_rfl
end
end Go.Q

