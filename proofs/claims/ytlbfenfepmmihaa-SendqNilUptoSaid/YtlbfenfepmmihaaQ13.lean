/- Part 13 of what the closing text rests on. -/
import Derived.Test.YtlbfenfepmmihaaQ12
import Derived.Test.YtlbfenfepmmihaaRows
namespace Go.ZR
open Go.Z
def vi : D → Int
  | .v (.int _ n) => n
  | _ => 0
def vb : D → Bool
  | .v (.bool b) => b
  | _ => false
def vl : D → List Int
  | .ints _ l => l
  | _ => []
end Go.ZR
namespace Go.ZM
open Go.Z Go.ZR
def sm (n : Nat) : Prop := n ≤ 1099511627776
def okI (n : Int) : Prop := -2199023255552 ≤ n ∧ n ≤ 2199023255552
def partF (b : List Int) (i n : Int) : List Int × Int :=
  if i < 0 ∨ n < 0 then ([], 1) else if (b.length : Int) < i ∨ (b.length : Int) - i < n then ([], 3) else ((b.drop i.toNat).take n.toNat, 0)
def getF (b : List Int) (i : Int) (k : Nat) : Int × Int := (valF (partF b i k).1, (partF b i k).2)
end Go.ZM
namespace Go.ZR
open Go.Z Go.ZM
def iO (k : IntKind) (n : Int) : O := .d (.v (.int k n))
def bO (b : Bool) : O := .d (.v (.bool b))
def bsO (l : List Int) : O := .d (.ints .u8 l)
def bsN (l : List Int) : O := .own 5 (.ints .u8 l)
def dO : O → D
  | .d x => x
  | _ => .v (.bool false)
def at_ (a : List O) (i : Nat) : O := a.getD i .any
def nC (n : Nat) (quiet : Bool) (pre : List O → Prop) (res : List O → List O) : Ctr where
  own := []
  pre := pre
  res := res
  upd := fun _ => List.replicate n .any
  ro := false
  quiet := quiet
def cloneC : Ctr := nC 1 false (fun a => ∃ l, a = [bsO l] ∧ sm l.length) fun a => [bsN (vl (dO (at_ a 0)))]
def padC : Ctr := nC 1 true (fun a => ∃ n : Nat, a = [iO .i64 n] ∧ n ≤ 2199023255552) fun a => [iO .i64 (padN (vi (dO (at_ a 0))).toNat : Nat)]
def paddedC : Ctr := nC 1 false (fun a => ∃ l, a = [bsO l] ∧ sm l.length) fun a => [bsN (padF (vl (dO (at_ a 0))))]
def putC : Ctr := nC 3 false (fun a => ∃ (b : List Int) (n : Int) (k : Nat), a = [bsO b, iO .u64 n, iO .i64 k] ∧ sm b.length ∧ 1 ≤ k ∧ k ≤ 8) fun a =>
  [bsN (vl (dO (at_ a 0)) ++ be (vi (dO (at_ a 1))) (vi (dO (at_ a 2))).toNat)]
def partA (a : List O) : List Int × Int := partF (vl (dO (at_ a 0))) (vi (dO (at_ a 1))) (vi (dO (at_ a 2)))
def partC : Ctr := nC 3 false (fun a => ∃ (b : List Int) (i n : Int), a = [bsO b, iO .i64 i, iO .i64 n] ∧ sm b.length ∧ okI i ∧ okI n) fun a => [bsN (partA a).1, iO .i64 (partA a).2]
def getA (a : List O) : Int × Int := getF (vl (dO (at_ a 0))) (vi (dO (at_ a 1))) (vi (dO (at_ a 2))).toNat
def getC (m : Nat) : Ctr := nC 3 false (fun a => ∃ (b : List Int) (i : Int) (k : Nat), a = [bsO b, iO .i64 i, iO .i64 k] ∧ sm b.length ∧ okB b ∧ okI i ∧ 1 ≤ k ∧ k ≤ m) fun a => [iO .u64 (getA a).1, iO .i64 (getA a).2]
def c0 : List (Nat × Ctr) := []
def c1 : List (Nat × Ctr) := [(82, cloneC), (241, padC)]
def c2 : List (Nat × Ctr) := [(201, partC), (266, partC)]
def c3 : List (Nat × Ctr) := [(245, getC 8)]
theorem c0_ok {P : Program} : COk P (ctrs c0) := cok_nil
end Go.ZR

namespace Go.ZR
open Go.Proofs
open Go.Z Go.ZM Go.RowKit
set_option maxRecDepth 100000
theorem bytes5 : Try.prog.types[(5 : Nat)].bytes = 1 := by kernel_rfl
noncomputable def code82 : Code := match Try.f82.body with | some c => c | none => .skip
set_option maxHeartbeats 4000000 in
theorem vc82 : ∀ (l : List Int), sm l.length → ∀ (t : Bool), (t = true → l.length = (0 : Nat)) → sw t (l = [] ∧ (true && true) = true) (True ∧ ((0 : Nat) + l.length) * Try.prog.types[(5 : Nat)].bytes ≤ (140737488355328 : Nat) ∧
  [] ++ l = l ∧ (!false && true && true) = true) := by
  simp only [↓sw_iff, ↓Bool.and_eq_true, ↓Bool.not_eq_true', true_and, and_true, Nat.zero_add, List.nil_append, Nat.mul_one, bytes5]
  intro l h t ht
  unfold sm at h
  exact ⟨fun e => by have := ht e; exact List.length_eq_zero_iff.1 this, fun _ => by omega⟩
set_option maxRecDepth 100000 in
theorem ok82 : FnIs Try.prog 82 cloneC := by
  refine fnIs (C := (ctrs c0)) (by kernel_rfl) c0_ok Try.func82 (code := code82) (by kernel_rfl) (by kernel_rfl) ?_
  rintro a ⟨l, rfl, h⟩
  exact ⟨anns [], kcast (vc82 l h) (by kernel_rfl)⟩

end Go.ZR

namespace Go.ZM
open Go.Z Go.ZR

structure ChR where
  t : Int
  f : Int
  v : List Int
def noCh : ChR := ⟨0, 0, []⟩
theorem range_getD {α : Type} (l : List α) (d : α) : (List.range l.length).map (fun i => l.getD i d) = l := by
  apply List.ext_getElem
  · simp
  · intro i h1 h2; simp [List.getD, List.getElem?_eq_getElem h2]
def sameCh (c d : ChR) : Bool := decide (c.t = d.t) && decide (c.f = d.f) && decide (bstr c.v = bstr d.v)
end Go.ZM
namespace Go.ZR
open Go.Z Go.ZM
def chO (c : ChR) : O := .agg [iO .u8 c.t, iO .u8 c.f, bsO c.v]
def chOf : O → ChR
  | .agg [t, f, v] => ⟨vi (dO t), vi (dO f), vl (dO v)⟩
  | _ => noCh
def sameC : Ctr := nC 2 true (fun a => ∃ c d, a = [chO c, chO d]) fun a => [bO (sameCh (chOf (at_ a 0)) (chOf (at_ a 1)))]
def c4 : List (Nat × Ctr) := [(241, padC)]
def c5 : List (Nat × Ctr) := [(198, putC), (199, paddedC)]
def c6 : List (Nat × Ctr) := [(65, putC), (156, paddedC)]
def c7 : List (Nat × Ctr) := [(205, getC 8), (241, padC), (201, partC), (82, cloneC)]
def c10 : List (Nat × Ctr) := [(118, sameC)]
end Go.ZR

namespace Go.ZR
open Go.Proofs
open Go.Z Go.ZM Go.RowKit
set_option maxRecDepth 100000

theorem getD_mem {α : Type} {l : List α} {d : α} {i : Nat} (h : i < l.length) : l.getD i d ∈ l := by
  rw [show l.getD i d = l[i] by simp [List.getD, List.getElem?_eq_getElem h]]; exact List.getElem_mem h
end Go.ZR
