/- Part 64 of what the closing text rests on. -/
import Derived.Test.YtdamnoleoakehaaGreatDoorKE58
set_option maxRecDepth 100000
namespace Go.Q
noncomputable section
open Go.RowKit Go.Proofs
open Go.Z hiding cond_false get resF
theorem xa0_1 : xOk2 0 ((bodyAt (leqG Γa0 2 false) 5 5).r (cS Γa0) ka0_1.e (ka0_1.st (.nil : Tr Ob) 1)) ceA = true := by kernel_rfl
theorem xa0_2 : xOk2 0 ((bodyAt (leqG Γa0 3 false) 5 5).r (cS Γa0) ka0_2.e (ka0_2.st (.nil : Tr Ob) 1)) ceA = true := by kernel_rfl
theorem xa0_3 : xOk2 0 ((bodyAt (leqG Γa0 4 false) 5 5).r (cS Γa0) ka0_3.e (ka0_3.st (.nil : Tr Ob) 1)) ceA = true := by kernel_rfl
theorem xa0_4 : xOk2 0 ((bodyAt (leqG Γa0 5 false) 5 5).r (cS Γa0) ka0_4.e (ka0_4.st (.nil : Tr Ob) 1)) ceA = true := by kernel_rfl
theorem xa0_5 : xOk2 0 ((bodyAt (leqG Γa0 6 false) 5 5).r (cS Γa0) ka0_5.e (ka0_5.st (.nil : Tr Ob) 1)) ceA = true := by kernel_rfl
theorem xa0_6 : xOk2 0 ((bodyAt (leqG Γa0 7 false) 5 5).r (cS Γa0) ka0_6.e (ka0_6.st (.nil : Tr Ob) 1)) ceA = true := by kernel_rfl
theorem xa0_7 : xOk2 0 ((bodyAt (leqG Γa0 8 false) 5 5).r (cS Γa0) ka0_7.e (ka0_7.st (.nil : Tr Ob) 1)) ceA = true := by kernel_rfl
theorem xa0_8 : xOk2 0 ((bodyAt (leqG Γa0 9 false) 5 5).r (cS Γa0) ka0_8.e (ka0_8.st (.nil : Tr Ob) 1)) ceA = true := by kernel_rfl
theorem xa0_9 : xOk2 0 ((bodyAt (leqG Γa0 10 false) 5 5).r (cS Γa0) ka0_9.e (ka0_9.st (.nil : Tr Ob) 1)) ceA = true := by kernel_rfl
theorem xa0_10 : xOk2 0 ((bodyAt (leqG Γa0 11 false) 5 5).r (cS Γa0) ka0_10.e (ka0_10.st (.nil : Tr Ob) 1)) ceA = true := by kernel_rfl
theorem xa0_11 : xOk2 0 ((bodyAt (leqG Γa0 12 false) 5 5).r (cS Γa0) ka0_11.e (ka0_11.st (.nil : Tr Ob) 1)) ceA = true := by kernel_rfl
theorem xa0_12 : xOk2 0 ((bodyAt (leqG Γa0 13 false) 5 5).r (cS Γa0) ka0_12.e (ka0_12.st (.nil : Tr Ob) 1)) ceA = true := by kernel_rfl
theorem xa0_13 : xOk2 0 ((bodyAt (leqG Γa0 14 false) 5 5).r (cS Γa0) ka0_13.e (ka0_13.st (.nil : Tr Ob) 1)) ceA = true := by kernel_rfl
theorem xa0_14 : xOk2 0 ((bodyAt (leqG Γa0 15 false) 5 5).r (cS Γa0) ka0_14.e (ka0_14.st (.nil : Tr Ob) 1)) ceA = true := by kernel_rfl
theorem xa0_15 : xOk2 0 ((bodyAt (leqG Γa0 16 false) 5 5).r (cS Γa0) ka0_15.e (ka0_15.st (.nil : Tr Ob) 1)) ceA = true := by kernel_rfl
theorem xa0_16 : xOk2 0 ((bodyAt (leqG Γa0 17 false) 5 5).r (cS Γa0) ka0_16.e (ka0_16.st (.nil : Tr Ob) 1)) ceA = true := by kernel_rfl
theorem xa0_17 : xOk2 0 ((bodyAt (leqG Γa0 18 false) 5 5).r (cS Γa0) ka0_17.e (ka0_17.st (.nil : Tr Ob) 1)) ceA = true := by kernel_rfl
theorem xa0_18 : xOk2 0 ((bodyAt (leqG Γa0 19 false) 5 5).r (cS Γa0) ka0_18.e (ka0_18.st (.nil : Tr Ob) 1)) ceA = true := by kernel_rfl
theorem xa0_19 : xOk2 0 ((bodyAt (leqG Γa0 20 false) 5 5).r (cS Γa0) ka0_19.e (ka0_19.st (.nil : Tr Ob) 1)) ceA = true := by kernel_rfl
theorem xa0_20 : xOk2 0 ((bodyAt (leqG Γa0 21 false) 5 5).r (cS Γa0) ka0_20.e (ka0_20.st (.nil : Tr Ob) 1)) ceA = true := by kernel_rfl
end
end Go.Q

set_option maxRecDepth 100000
namespace Go.Q
noncomputable section
open Go.RowKit Go.Proofs
open Go.Z hiding cond_false get resF
theorem topa0 : tvO (runL Γa0 5 5 0 (.nil : Tr Ob) 1 ka0_0 ceA aa0 ⟨.nil, .nil, 1, 1⟩) = true := by kernel_rfl
end
end Go.Q


