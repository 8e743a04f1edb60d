/- Part 57 of what the closing text rests on. -/
import Derived.Test.YtdamnoleoakehaaGreatDoorKE51
set_option maxRecDepth 100000
namespace Go.Q
noncomputable section
open Go.RowKit Go.Proofs
open Go.Z hiding cond_false get resF
theorem xaG_1 : xOk2 0 ((bodyAt (leqG ΓaG 2 false) 5 5).r (cS ΓaG) kaG_1.e (kaG_1.st (winB) 1)) ceA = true := by kernel_rfl
theorem xaG_2 : xOk2 0 ((bodyAt (leqG ΓaG 3 false) 5 5).r (cS ΓaG) kaG_2.e (kaG_2.st (winB) 1)) ceA = true := by kernel_rfl
theorem xaG_3 : xOk2 0 ((bodyAt (leqG ΓaG 4 false) 5 5).r (cS ΓaG) kaG_3.e (kaG_3.st (winB) 1)) ceA = true := by kernel_rfl
theorem xaG_4 : xOk2 0 ((bodyAt (leqG ΓaG 5 false) 5 5).r (cS ΓaG) kaG_4.e (kaG_4.st (winB) 1)) ceA = true := by kernel_rfl
theorem xaG_5 : xOk2 0 ((bodyAt (leqG ΓaG 6 false) 5 5).r (cS ΓaG) kaG_5.e (kaG_5.st (winB) 1)) ceA = true := by kernel_rfl
theorem xaG_6 : xOk2 0 ((bodyAt (leqG ΓaG 7 false) 5 5).r (cS ΓaG) kaG_6.e (kaG_6.st (winB) 1)) ceA = true := by kernel_rfl
theorem xaG_7 : xOk2 0 ((bodyAt (leqG ΓaG 8 false) 5 5).r (cS ΓaG) kaG_7.e (kaG_7.st (winB) 1)) ceA = true := by kernel_rfl
theorem xaG_8 : xOk2 0 ((bodyAt (leqG ΓaG 9 false) 5 5).r (cS ΓaG) kaG_8.e (kaG_8.st (winB) 1)) ceA = true := by kernel_rfl
theorem xaG_9 : xOk2 0 ((bodyAt (leqG ΓaG 10 false) 5 5).r (cS ΓaG) kaG_9.e (kaG_9.st (winB) 1)) ceA = true := by kernel_rfl
theorem xaG_10 : xOk2 0 ((bodyAt (leqG ΓaG 11 false) 5 5).r (cS ΓaG) kaG_10.e (kaG_10.st (winB) 1)) ceA = true := by kernel_rfl
theorem xaG_11 : xOk2 0 ((bodyAt (leqG ΓaG 12 false) 5 5).r (cS ΓaG) kaG_11.e (kaG_11.st (winB) 1)) ceA = true := by kernel_rfl
theorem xaG_12 : xOk2 0 ((bodyAt (leqG ΓaG 13 false) 5 5).r (cS ΓaG) kaG_12.e (kaG_12.st (winB) 1)) ceA = true := by kernel_rfl
theorem xaG_13 : xOk2 0 ((bodyAt (leqG ΓaG 14 false) 5 5).r (cS ΓaG) kaG_13.e (kaG_13.st (winB) 1)) ceA = true := by kernel_rfl
theorem xaG_14 : xOk2 0 ((bodyAt (leqG ΓaG 15 false) 5 5).r (cS ΓaG) kaG_14.e (kaG_14.st (winB) 1)) ceA = true := by kernel_rfl
theorem xaG_15 : xOk2 0 ((bodyAt (leqG ΓaG 16 false) 5 5).r (cS ΓaG) kaG_15.e (kaG_15.st (winB) 1)) ceA = true := by kernel_rfl
theorem xaG_16 : xOk2 0 ((bodyAt (leqG ΓaG 17 false) 5 5).r (cS ΓaG) kaG_16.e (kaG_16.st (winB) 1)) ceA = true := by kernel_rfl
theorem xaG_17 : xOk2 0 ((bodyAt (leqG ΓaG 18 false) 5 5).r (cS ΓaG) kaG_17.e (kaG_17.st (winB) 1)) ceA = true := by kernel_rfl
theorem xaG_18 : xOk2 0 ((bodyAt (leqG ΓaG 19 false) 5 5).r (cS ΓaG) kaG_18.e (kaG_18.st (winB) 1)) ceA = true := by kernel_rfl
theorem xaG_19 : xOk2 0 ((bodyAt (leqG ΓaG 20 false) 5 5).r (cS ΓaG) kaG_19.e (kaG_19.st (winB) 1)) ceA = true := by kernel_rfl
theorem xaG_20 : xOk2 0 ((bodyAt (leqG ΓaG 21 false) 5 5).r (cS ΓaG) kaG_20.e (kaG_20.st (winB) 1)) ceA = true := by kernel_rfl
end
end Go.Q

set_option maxRecDepth 100000
namespace Go.Q
noncomputable section
open Go.RowKit Go.Proofs
open Go.Z hiding cond_false get resF
theorem one5 : oneL 5 5 = true := by kernel_rfl
theorem topaG : tvO (runL ΓaG 5 5 0 (winB) 1 kaG_0 ceA aaG ⟨winB, .nil, 1, 1⟩) = true := by kernel_rfl
end
end Go.Q


