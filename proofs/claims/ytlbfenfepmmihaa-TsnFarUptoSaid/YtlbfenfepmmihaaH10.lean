/- Part 10 of what the closing text rests on. -/
import Derived.Test.YtlbfenfepmmihaaH9
import Derived.WalkKit
import Derived.ProofKit
import Derived.StillTactics
/- Numbers of 32 bits are ordered by how far they are. -/
namespace Go.Proofs.Ytlbfenfepmmihaa
open Go.Proofs
open Go.RowKit Go.Maps Go.Sort Go.Shelf

set_option maxRecDepth 100000 in
theorem Try.cmp63 (x y c : Int) (Bt T : Nat) (W : World) (h1 : W.cell? ⟨Bt, 0, none⟩ = some (.pointer (some ⟨T, 0, none⟩))) (h2 : W.cell? ⟨T, 0, none⟩ = some (.int .u32 c)) :
    Calls Try.prog 63 #[.int .u32 x, .int .u32 y, .pointer (some ⟨Bt, 0, none⟩)] W fun e w' => e = .returned (.int .i64 ((x - c) % 4294967296 - (y - c) % 4294967296)) ∧ ∃ q, w' = W.drewN q := by
  go_enter Try.func63, Try.ntmps63
  go_wp2
  go_still (by kernel_rfl)
  go_wp2
  go_ret
  refine ⟨?_, 1, rfl⟩
  have e1 := IntKind.wrap_u32 (x - c)
  have e2 := IntKind.wrap_u32 (y - c)
  have i1 : IntKind.i64.wrap (IntKind.u32.wrap (x - c)) = (x - c) % 4294967296 := by rw [IntKind.wrap_i64]; omega
  have i2 : IntKind.i64.wrap (IntKind.u32.wrap (y - c)) = (y - c) % 4294967296 := by rw [IntKind.wrap_i64]; omega
  rw [i1, i2, show IntKind.i64.wrap ((x - c) % 4294967296 - (y - c) % 4294967296) = (x - c) % 4294967296 - (y - c) % 4294967296 by rw [IntKind.wrap_i64]; omega]
  rfl
end Go.Proofs.Ytlbfenfepmmihaa
