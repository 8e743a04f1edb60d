/- Part 15 of what the closing text rests on. -/
import Derived.Test.YtlbfenfepmmihaaV14
import Derived.Lib.EndianBits
namespace Go.Z
open Go.ChangeShapes Go.WideShapes Go.ChangeAt Go.RowKit

section
variable {H : Type} {enc : TypeId × Value → H} {P : Program}

theorem spot_none {w : World} {a : Addr} {v : Value} (h : w.cell? a = some v) : a = ⟨a.block, a.off, none⟩ := by
  obtain ⟨b, o, s⟩ := a
  cases s with
  | none => rfl
  | some s =>
    unfold World.cell? at h
    split at h
    · simp at h
    · cases h

theorem add_spot (b o i : Nat) : Addr.add ⟨b, o, none⟩ i = ⟨b, o + i, none⟩ := by
  unfold Addr.add
  split
  · rename_i h; subst h; rfl
  · rfl

end
end Go.Z

namespace Go.ZM
open Go.Z

def valF (l : List Int) : Int := l.foldl (fun a x => a * 256 + x) 0
def padN (n : Nat) : Nat := (4 - n % 4) % 4
def okB (l : List Int) : Prop := ∀ x, x ∈ l → 0 ≤ x ∧ x ≤ 255

end Go.ZM
namespace Go.ZR
open Go.Z Go.ZM

theorem wrap_i64_id {n : Int} (h0 : -9223372036854775808 ≤ n) (h1 : n ≤ 9223372036854775807) : IntKind.i64.wrap n = n := by
  rw [IntKind.wrap_i64]; omega
end Go.ZR

namespace Go.Z
open Go.RowKit

end Go.Z
