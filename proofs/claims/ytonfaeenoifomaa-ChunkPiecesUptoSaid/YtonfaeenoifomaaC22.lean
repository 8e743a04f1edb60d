/- A piece of a message, opened. -/
import Derived.Test.YtonfaeenoifomaaC7
import Derived.Test.YtonfaeenoifomaaC21
set_option maxRecDepth 100000
namespace Go.ZR
open Go.Proofs
open Go.ChangeShapes Go.WideShapes Go.ChangeAt Go.RowKit
open Go.Z Go.ZM
section
variable {H : Type} {enc : TypeId × Value → H} {W : World}
theorem flat43 : flat Try.prog 8 43 = some [.int .u32, .int .u16, .int .u16, .bool, .bool, .bool, .ints .u8] := by kernel_rfl
theorem open43 {b0 : Nat} {r : Reach} {v : Value} {d : DataW H} {ps : List MemPlace} {base : Nat} (hv : Value.okWide Try.prog W r b0 43 v) (h : DataW.Trod enc Try.prog W base (fun _ => true) true 43 v d ps) (hb : Bnd 1048576 d) :
    ∃ c : PieR, okPie c ∧ O.holds (fun _ => True) W (pieO c) v [] := by
  obtain ⟨ds, h1, h2, h3⟩ := open_many (struct_cells Try.underlying43 hv) flat43 h hb
  match ds, h1 with
  | [a0, a1, a2, a3, a4, a5, a6], _ =>
    simp only [fitsL, fits, List.getD_cons_zero, List.getD_cons_succ] at h2
    obtain ⟨⟨x0, rfl, r0⟩, ⟨x1, rfl, r1⟩, ⟨x2, rfl, r2⟩, ⟨x3, rfl⟩, ⟨x4, rfl⟩, ⟨x5, rfl⟩, ⟨x6, rfl, r6, l6⟩, _⟩ := h2
    exact ⟨⟨x0, x1, x2, x3, x4, x5, x6⟩, ⟨r0, r1, r2, fun y hy => u8_in (r6 y hy), by unfold sm; simp only; omega⟩, h3⟩
end
end Go.ZR
