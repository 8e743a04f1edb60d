/- Part 71 of what the closing text rests on. -/
import Derived.Test.YtdamnoleoakehaaGreatDoorKE65
set_option maxRecDepth 100000
namespace Go.Q
noncomputable section
open Go.RowKit Go.Proofs
open Go.Z hiding cond_false get resF
theorem xa5_1 : xOk2 0 ((bodyAt (leqG Γa5 2 false) 5 5).r (cS Γa5) ka5_1.e (ka5_1.st (.nil : Tr Ob) 0)) ceA = true := by kernel_rfl
theorem xa5_2 : xOk2 0 ((bodyAt (leqG Γa5 3 false) 5 5).r (cS Γa5) ka5_2.e (ka5_2.st (.nil : Tr Ob) 0)) ceA = true := by kernel_rfl
theorem xa5_3 : xOk2 0 ((bodyAt (leqG Γa5 4 false) 5 5).r (cS Γa5) ka5_3.e (ka5_3.st (.nil : Tr Ob) 0)) ceA = true := by kernel_rfl
theorem xa5_4 : xOk2 0 ((bodyAt (leqG Γa5 5 false) 5 5).r (cS Γa5) ka5_4.e (ka5_4.st (.nil : Tr Ob) 0)) ceA = true := by kernel_rfl
theorem xa5_5 : xOk2 0 ((bodyAt (leqG Γa5 6 false) 5 5).r (cS Γa5) ka5_5.e (ka5_5.st (.nil : Tr Ob) 0)) ceA = true := by kernel_rfl
theorem xa5_6 : xOk2 0 ((bodyAt (leqG Γa5 7 false) 5 5).r (cS Γa5) ka5_6.e (ka5_6.st (.nil : Tr Ob) 0)) ceA = true := by kernel_rfl
theorem xa5_7 : xOk2 0 ((bodyAt (leqG Γa5 8 false) 5 5).r (cS Γa5) ka5_7.e (ka5_7.st (.nil : Tr Ob) 0)) ceA = true := by kernel_rfl
theorem xa5_8 : xOk2 0 ((bodyAt (leqG Γa5 9 false) 5 5).r (cS Γa5) ka5_8.e (ka5_8.st (.nil : Tr Ob) 0)) ceA = true := by kernel_rfl
theorem xa5_9 : xOk2 0 ((bodyAt (leqG Γa5 10 false) 5 5).r (cS Γa5) ka5_9.e (ka5_9.st (.nil : Tr Ob) 0)) ceA = true := by kernel_rfl
theorem xa5_10 : xOk2 0 ((bodyAt (leqG Γa5 11 false) 5 5).r (cS Γa5) ka5_10.e (ka5_10.st (.nil : Tr Ob) 0)) ceA = true := by kernel_rfl
theorem xa5_11 : xOk2 0 ((bodyAt (leqG Γa5 12 false) 5 5).r (cS Γa5) ka5_11.e (ka5_11.st (.nil : Tr Ob) 0)) ceA = true := by kernel_rfl
theorem xa5_12 : xOk2 0 ((bodyAt (leqG Γa5 13 false) 5 5).r (cS Γa5) ka5_12.e (ka5_12.st (.nil : Tr Ob) 0)) ceA = true := by kernel_rfl
theorem xa5_13 : xOk2 0 ((bodyAt (leqG Γa5 14 false) 5 5).r (cS Γa5) ka5_13.e (ka5_13.st (.nil : Tr Ob) 0)) ceA = true := by kernel_rfl
theorem xa5_14 : xOk2 0 ((bodyAt (leqG Γa5 15 false) 5 5).r (cS Γa5) ka5_14.e (ka5_14.st (.nil : Tr Ob) 0)) ceA = true := by kernel_rfl
theorem xa5_15 : xOk2 0 ((bodyAt (leqG Γa5 16 false) 5 5).r (cS Γa5) ka5_15.e (ka5_15.st (.nil : Tr Ob) 0)) ceA = true := by kernel_rfl
theorem xa5_16 : xOk2 0 ((bodyAt (leqG Γa5 17 false) 5 5).r (cS Γa5) ka5_16.e (ka5_16.st (.nil : Tr Ob) 0)) ceA = true := by kernel_rfl
theorem xa5_17 : xOk2 0 ((bodyAt (leqG Γa5 18 false) 5 5).r (cS Γa5) ka5_17.e (ka5_17.st (.nil : Tr Ob) 0)) ceA = true := by kernel_rfl
theorem xa5_18 : xOk2 0 ((bodyAt (leqG Γa5 19 false) 5 5).r (cS Γa5) ka5_18.e (ka5_18.st (.nil : Tr Ob) 0)) ceA = true := by kernel_rfl
theorem xa5_19 : xOk2 0 ((bodyAt (leqG Γa5 20 false) 5 5).r (cS Γa5) ka5_19.e (ka5_19.st (.nil : Tr Ob) 0)) ceA = true := by kernel_rfl
theorem xa5_20 : xOk2 0 ((bodyAt (leqG Γa5 21 false) 5 5).r (cS Γa5) ka5_20.e (ka5_20.st (.nil : Tr Ob) 0)) ceA = true := by kernel_rfl
end
end Go.Q

set_option maxRecDepth 100000
namespace Go.Q
noncomputable section
open Go.RowKit Go.Proofs
open Go.Z hiding cond_false get resF
theorem topa5 : tvO (runL Γa5 5 5 0 (.nil : Tr Ob) 0 ka5_0 ceA aa5 ⟨.nil, .nil, 0, 0⟩) = true := by kernel_rfl
end
end Go.Q


