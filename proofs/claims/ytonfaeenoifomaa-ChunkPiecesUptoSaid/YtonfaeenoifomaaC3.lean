/- Chunks: data, plain functions, contracts. -/
import Derived.Test.YtonfaeenoifomaaC2
import Derived.Test.YtonfaeenoifomaaZ30
namespace Go.ZM
open Go.Z Go.ZR

structure ChR where
  t : Int
  f : Int
  v : List Int
def noCh : ChR := ⟨0, 0, []⟩
def chCell (l : List ChR) (i j : Nat) : D :=
  match j with
  | 0 => .v (.int .u8 (l.getD i noCh).t)
  | 1 => .v (.int .u8 (l.getD i noCh).f)
  | _ => .ints .u8 (l.getD i noCh).v
def chAt (g : Nat → D) : ChR := ⟨vi (g 0), vi (g 1), vl (g 2)⟩
def chsOf : D → List ChR
  | .recs _ n f => (List.range n).map fun i => chAt (f i)
  | _ => []
theorem range_getD {α : Type} (l : List α) (d : α) : (List.range l.length).map (fun i => l.getD i d) = l := by
  apply List.ext_getElem
  · simp
  · intro i h1 h2; simp [List.getD, List.getElem?_eq_getElem h2]
theorem chsOf_chs (l : List ChR) : chsOf (.recs 3 l.length (chCell l)) = l := range_getD l noCh

def chB (c : ChR) : List Int := [c.t, c.f] ++ (be (4 + (c.v.length : Int)) 2 ++ padF c.v)
def putB (l : List ChR) : List Int := l.flatMap chB
/-- Chunks as bytes, and the error. -/
def putR (l : List ChR) : List Int × Int := if 32 < l.length ∨ 4096 < (putB l).length then ([], 4) else (putB l, 0)
def someNZ (l : List Int) : Bool := l.any fun x => decide (0 < x)
/-- The first chunk's number. -/
def numF (b : List Int) : Nat := (valF ((b.drop 2).take 2)).toNat
/-- The first chunk of bytes; how many it takes; the error. -/
def firstF (b : List Int) : ChR × Nat × Int :=
  if b.length < 4 then (noCh, 0, 3) else
  if numF b < 4 then (noCh, 0, 2) else
  if b.length < numF b + padN (numF b) then (noCh, 0, 3) else
  if someNZ ((b.drop (numF b)).take (padN (numF b))) = true then (noCh, 0, 2) else
  (⟨b.getD 0 0, b.getD 1 0, (b.drop 4).take (numF b - 4)⟩, numF b + padN (numF b), 0)
def getG : Nat → List ChR → List Int → List ChR × Int
  | 0, _, _ => ([], 4)
  | f + 1, l, b => if b.length = 0 then (l, 0) else if 32 ≤ l.length then ([], 4) else
    if (firstF b).2.2 = 0 then getG f (l ++ [(firstF b).1]) (b.drop (firstF b).2.1) else ([], (firstF b).2.2)
def getR (b : List Int) : List ChR × Int := if 4096 < b.length then ([], 4) else getG 33 [] b
def sameCh (c d : ChR) : Bool := decide (c.t = d.t) && decide (c.f = d.f) && decide (bstr c.v = bstr d.v)
def sameChs (l m : List ChR) : Bool := (List.range (min l.length m.length)).all (fun i => sameCh (l.getD i noCh) (m.getD i noCh)) && decide (l.length = m.length)
def okCh (c : ChR) : Prop := sm c.v.length
def okChs (l : List ChR) : Prop := l.length ≤ 1073741824 ∧ ∀ c, c ∈ l → sm c.v.length
end Go.ZM
namespace Go.ZR
open Go.Z Go.ZM
def chsD (l : List ChR) : D := .recs 3 l.length (chCell l)
def chO (c : ChR) : O := .agg [iO .u8 c.t, iO .u8 c.f, bsO c.v]
def chN (c : ChR) : O := .agg [iO .u8 c.t, iO .u8 c.f, bsN c.v]
def chOf : O → ChR
  | .agg [t, f, v] => ⟨vi (dO t), vi (dO f), vl (dO v)⟩
  | _ => noCh
/-- As nC; results may share what is read. -/
def rC (n : Nat) (pre : List O → Prop) (res : List O → List O) : Ctr where
  own := []
  pre := pre
  res := res
  upd := fun _ => List.replicate n .any
  ro := true
  quiet := false
def ownC : Ctr := rC 1 (fun a => ∃ l, a = [.d (chsD l)] ∧ okChs l) fun a => [.own 45 (chsD (chsOf (dO (at_ a 0))))]
def putsC : Ctr := nC 1 false (fun a => ∃ l, a = [.d (chsD l)] ∧ okChs l) fun a => [bsN (putR (chsOf (dO (at_ a 0)))).1, iO .i64 (putR (chsOf (dO (at_ a 0)))).2]
def sizeC : Ctr := nC 1 true (fun a => ∃ c, a = [chO c] ∧ okCh c) fun a => [iO .i64 ((chB (chOf (at_ a 0))).length : Nat)]
def ansC : Ctr := nC 0 true (fun a => a = []) fun _ => [bO true]
def nzD : D := fnD 69 0 []
def nzC : Ctr := nC 2 true (fun a => ∃ l, a = [bsO l, .d nzD] ∧ sm l.length) fun a => [bO (someNZ (vl (dO (at_ a 0))))]
def firstC : Ctr := nC 1 false (fun a => ∃ b, a = [bsO b] ∧ sm b.length ∧ okB b) fun a =>
  [chN (firstF (vl (dO (at_ a 0)))).1, iO .i64 ((firstF (vl (dO (at_ a 0)))).2.1 : Nat), iO .i64 (firstF (vl (dO (at_ a 0)))).2.2]
def getsC : Ctr := rC 1 (fun a => ∃ b, a = [bsO b] ∧ sm b.length ∧ okB b) fun a => [.own 45 (chsD (getR (vl (dO (at_ a 0)))).1), iO .i64 (getR (vl (dO (at_ a 0)))).2]
def sameC : Ctr := nC 2 true (fun a => ∃ c d, a = [chO c, chO d]) fun a => [bO (sameCh (chOf (at_ a 0)) (chOf (at_ a 1)))]
def samesC : Ctr := nC 2 true (fun a => ∃ l m, a = [.d (chsD l), .d (chsD m)] ∧ okChs l ∧ okChs m) fun a => [bO (sameChs (chsOf (dO (at_ a 0))) (chsOf (dO (at_ a 1))))]

def ownAnn (l : List ChR) : LoopAnn where
  γ := Nat
  pre := fun i => i ≤ l.length
  μ := fun i => l.length - i
  items := fun i => [(4, .c (iO .i64 (i : Int))), (3, .c (.own 45 (chsD (l.take i))))]
def sizeAnn (l : List ChR) : LoopAnn where
  γ := Nat
  pre := fun i => i ≤ l.length ∧ (putB (l.take i)).length ≤ 4096
  μ := fun i => l.length - i
  items := fun i => [(15, .c (iO .i64 (i : Int))), (4, .c (iO .i64 ((putB (l.take i)).length : Nat)))]
def outAnn (s t : Nat) (l : List ChR) : LoopAnn where
  γ := Nat
  pre := fun i => i ≤ l.length ∧ (putB (l.take i)).length ≤ 4096
  μ := fun i => l.length - i
  items := fun i => [(s, .c (iO .i64 (i : Int))), (t, .c (bsN (putB (l.take i))))]
def firstAnn : LoopF := .fam (List Int) fun l =>
  { γ := Nat, pre := fun i => i ≤ l.length ∧ ∀ j, j < i → ¬ 0 < l.getD j 0, μ := fun i => l.length - i, items := fun i => [(8, .c (iO .i64 (i : Int)))] }
def getAnn (b : List Int) : LoopAnn where
  γ := List ChR × List Int
  pre := fun g => g.1.length ≤ 32 ∧ g.2.length ≤ 4096 ∧ okB g.2 ∧ getG (33 - g.1.length) g.1 g.2 = getG 33 [] b
  μ := fun g => 33 - g.1.length
  items := fun g => [(4, .c (.own 45 (chsD g.1))), (0, .c (bsO g.2))]
def getAnn' (b : List Int) : LoopAnn where
  γ := List ChR × Nat
  pre := fun g => g.1.length ≤ 32 ∧ g.2 ≤ b.length ∧ getG (33 - g.1.length) g.1 (b.drop g.2) = getG 33 [] b
  μ := fun g => 33 - g.1.length
  items := fun g => [(4, .c (.own 45 (chsD g.1))), (5, .c (iO .i64 (g.2 : Int)))]
def padAnn (b : List Int) : LoopF := .fam (Nat × Nat) fun p =>
  { γ := Nat, pre := fun i => p.1 ≤ i ∧ i ≤ p.2 ∧ ∀ j, p.1 ≤ j → j < i → b.getD j 0 = 0, μ := fun i => p.2 - i, items := fun i => [(8, .c (iO .i64 (i : Int)))] }
def samesAnn (l m : List ChR) : LoopAnn where
  γ := Nat
  pre := fun i => i ≤ l.length ∧ i ≤ m.length ∧ ∀ j, j < i → sameCh (l.getD j noCh) (m.getD j noCh) = true
  μ := fun i => l.length - i
  items := fun i => [(5, .c (iO .i64 (i : Int)))]
def c4 : List (Nat × Ctr) := [(67, padC)]
def c5 : List (Nat × Ctr) := [(44, sizeC), (45, putC), (46, paddedC)]
def c6 : List (Nat × Ctr) := [(47, putC), (48, paddedC)]
def c7 : List (Nat × Ctr) := [(65, getC 8), (67, padC), (57, partC), (68, nzC), (54, cloneC)]
def c8 : List (Nat × Ctr) := [(49, firstC)]
def c9 : List (Nat × Ctr) := [(50, numC), (51, padC)]
def c10 : List (Nat × Ctr) := [(25, sameC)]
end Go.ZR
