/- What a side says of itself, opened. -/
import Derived.Test.YtonfaeenoifomaaC7
import Derived.Test.YtonfaeenoifomaaC15
set_option maxRecDepth 100000
namespace Go.ZR
open Go.Proofs
open Go.ChangeShapes Go.WideShapes Go.ChangeAt Go.RowKit
open Go.Z Go.ZM
section
variable {H : Type} {enc : TypeId × Value → H} {W : World}
theorem flat54 : flat Try.prog 8 54 = some [.int .u32, .int .u32, .int .u16, .int .u16, .int .u32, .ints .u8] := by kernel_rfl
theorem open54 {b0 : Nat} {r : Reach} {v : Value} {d : DataW H} {ps : List MemPlace} {base : Nat} (hv : Value.okWide Try.prog W r b0 54 v) (h : DataW.Trod enc Try.prog W base (fun _ => true) true 54 v d ps) (hb : Bnd 1048576 d) :
    ∃ c : HelR, okHel c ∧ O.holds (fun _ => True) W (helO c) v [] := by
  obtain ⟨ds, h1, h2, h3⟩ := open_many (struct_cells Try.underlying54 hv) flat54 h hb
  match ds, h1 with
  | [a0, a1, a2, a3, a4, a5], _ =>
    simp only [fitsL, fits, List.getD_cons_zero, List.getD_cons_succ] at h2
    obtain ⟨⟨x0, rfl, r0⟩, ⟨x1, rfl, r1⟩, ⟨x2, rfl, r2⟩, ⟨x3, rfl, r3⟩, ⟨x4, rfl, r4⟩, ⟨x5, rfl, r5, l5⟩, _⟩ := h2
    exact ⟨⟨x0, x1, x2, x3, x4, x5⟩, ⟨r0, r1, r2, r3, r4, fun y hy => u8_in (r5 y hy), by unfold sm; simp only; omega⟩, h3⟩
end
end Go.ZR
