/- The statement of pieces: contracts. -/
import Derived.Test.YtonfaeenoifomaaC14
import Derived.Test.YtonfaeenoifomaaC19
set_option maxRecDepth 100000
namespace Go.ZR
open Go.Z Go.ZM Go.Proofs
def pieLawC : Ctr := trueC 2 fun a => ∃ p c, a = [pieO p, chO c] ∧ okPie p ∧ chOk c
def c20 : List (Nat × Ctr) := [(17, ansC), (23, fromPieC), (24, fromPieC), (25, sameC), (26, toPieC), (28, toPieC), (27, samePieC), (15, ownWC)]
theorem c20_ok : COk Try.prog (ctrs c20) := cok_cons ok17 (cok_cons ok23 (cok_cons ok24 (cok_cons ok25 (cok_cons ok26 (cok_cons ok28 (cok_cons ok27 (cok_cons ok15w cok_nil)))))))
theorem toPie_len (c : ChR) (h : sm c.v.length) : sm (toPie c).1.bytes.length := by
  unfold toPie
  split
  · exact Nat.zero_le _
  · unfold pieOf pie1; simp only; unfold sm at *; split
    · rw [List.length_drop]; omega
    · exact Nat.zero_le _
end Go.ZR
