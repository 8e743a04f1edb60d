/- Part 3 of what the closing text rests on. -/
import Derived.Test.YtdamnoleoakehaaGreatDoorKX2
namespace Go.Z
open Go.RowKit

section
variable {P : Program} {K : Ctx} {θ : Th} {h : List (Nat × R)} {nx : Nat} {w : World}

def rdB (θ : Th) : SV → Nat → Prop
  | .p n _, b => ∃ L, θ n = some L ∧ L.b = b
  | .e n _ _ _, b => ∃ L, θ n = some L ∧ L.len ≠ 0 ∧ L.b = b
  | .a n, b => ∃ L, θ n = some L ∧ L.len ≠ 0 ∧ L.b = b
  | .m n, b => ∃ L, θ n = some L ∧ L.b = b
  | .q n, b => ∃ L, θ n = some L ∧ L.b = b
  | .px _ _ b' _, b => b' = b
  | _, _ => False
def Rd (θ : Th) (s : SV) (w w' : World) : Prop := ∀ b, b < w.heap.size → rdB θ s b → w'.heap[b]? = w.heap[b]?
theorem run_prog {P : Program} (w : World) : (program : Sem Program).run P w = .ok P w := rfl
theorem run_getObj_map {b : Nat} {es : Array MapEntry} {clock : Nat} {w' : World} (h : w'.heap[b]? = some (.map es clock)) : (getObj b).run P w' = .ok (.map es clock) w' := by
  show (Sem.getObj b Sem.pure).run P w' = _
  simp only [Sem.run, h]

end
end Go.Z

