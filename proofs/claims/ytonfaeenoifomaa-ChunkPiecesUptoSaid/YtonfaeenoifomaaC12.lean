/- What a side says of itself: contracts. -/
import Derived.Test.YtonfaeenoifomaaC11
set_option maxRecDepth 100000
namespace Go.ZR
open Go.Z Go.ZM Go.Proofs
def helL (h : HelR) (ck : O) : O := .agg [iO .u32 h.tag, iO .u32 h.win, iO .u16 h.out, iO .u16 h.inn, iO .u32 h.tsn, ck]
def helO (h : HelR) : O := helL h (bsO h.cookie)
def helN (h : HelR) : O := helL h (bsN h.cookie)
def helOfO : O → HelR
  | .agg [a, b, c, d, e, f] => ⟨vi (dO a), vi (dO b), vi (dO c), vi (dO d), vi (dO e), vl (dO f)⟩
  | _ => noHel
def greetC : Ctr := nC 2 true (fun a => ∃ h b, a = [helO h, bO b]) fun a => [bO (greetF (helOfO (at_ a 0)) (vb (dO (at_ a 1))))]
def fromHelC : Ctr := nC 2 false (fun a => ∃ h b, a = [helO h, bO b] ∧ okHel h) fun a =>
  [chN (fromHel (helOfO (at_ a 0)) (vb (dO (at_ a 1)))).1, iO .i64 (fromHel (helOfO (at_ a 0)) (vb (dO (at_ a 1)))).2]
def eqC : Ctr := nC 2 true (fun a => ∃ l m, a = [bsO l, bsO m] ∧ sm l.length) fun a => [bO (decide (vl (dO (at_ a 0)) = vl (dO (at_ a 1))))]
def sameBC : Ctr := nC 2 true (fun a => ∃ c d, a = [chO c, chO d] ∧ okCh c) fun a => [bO (sameB (chOf (at_ a 0)) (chOf (at_ a 1)))]
def rdO (v : List Int) (i : Int) (b : Bool) : O := .ptr 90 [bsO v, iO .i64 i, bO b]
def rdOf : O → List Int × Int × Bool
  | .ptr _ [v, i, b] => (vl (dO v), vi (dO i), vb (dO b))
  | _ => ([], 0, false)
def rdC : Ctr where
  own := [true, false]
  pre := fun a => ∃ (v : List Int) (i : Int) (b : Bool) (k : Nat), a = [rdO v i b, iO .i64 k] ∧ sm v.length ∧ okB v ∧ 0 ≤ i ∧ i ≤ 1099511627776 ∧ 1 ≤ k ∧ k ≤ 8
  res := fun a => [iO .u64 (numAt (rdOf (at_ a 0)).1 (rdOf (at_ a 0)).2.1 (vi (dO (at_ a 1))).toNat)]
  upd := fun a => [rdO (rdOf (at_ a 0)).1 ((rdOf (at_ a 0)).2.1 + vi (dO (at_ a 1))) ((rdOf (at_ a 0)).2.2 || !decide ((getF (rdOf (at_ a 0)).1 (rdOf (at_ a 0)).2.1 (vi (dO (at_ a 1))).toNat).2 = 0)), .any]
  ro := true
  quiet := false
def toHelC : Ctr := nC 1 false (fun a => ∃ c, a = [chO c] ∧ okB c.v ∧ sm c.v.length) fun a => [helN (toHel (chOf (at_ a 0))).1, iO .i64 (toHel (chOf (at_ a 0))).2]
def sameHelC : Ctr := nC 2 true (fun a => ∃ h g, a = [helO h, helO g]) fun a => [bO (sameHel (helOfO (at_ a 0)) (helOfO (at_ a 1)))]
def getQ : Ctr := { getC 8 with quiet := true }
def numQ : Ctr := { numC with quiet := true }
theorem ok65q : FnIs Try.prog 65 getQ := ⟨ok65.1, ok65.2⟩
theorem ok50q : FnIs Try.prog 50 numQ := ⟨ok50.1, ok50.2⟩
def eqAnn (l m : List Int) : LoopAnn where
  γ := Nat
  pre := fun i => i ≤ l.length ∧ ∀ j, j < i → l.getD j 0 = m.getD j 0
  μ := fun i => l.length - i
  items := fun i => [(13, .c (iO .i64 (i : Int)))]
def c12 : List (Nat × Ctr) := [(56, greetC), (45, putC), (46, paddedC)]
def c13 : List (Nat × Ctr) := [(70, eqC)]
def c14 : List (Nat × Ctr) := [(65, getQ)]
def c15 : List (Nat × Ctr) := [(53, rdC), (57, partC), (29, fromHelC), (55, sameBC)]
def c16 : List (Nat × Ctr) := [(50, numQ), (30, fromHelC), (25, sameC)]
theorem c14_ok : COk Try.prog (ctrs c14) := cok_cons ok65q cok_nil
end Go.ZR
