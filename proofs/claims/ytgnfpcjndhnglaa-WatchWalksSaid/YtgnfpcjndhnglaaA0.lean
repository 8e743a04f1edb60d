/- The watch, as plain functions of numbers. -/
import Derived.Test.YtgnfpcjndhnglaaY27
namespace Go.YM
open Go.Y

structure DoB where
  ask : Bool
  fail : Bool
  back : Bool
  close : Bool
  tri : Bool
  wind : Bool

/-- A watch: state, pending, seen. -/
structure Wt where
  s : Int
  p : Bool
  n : Int

def noDo : DoB := ⟨false, false, false, false, false, false⟩
def goneF (w : Wt) : Wt := ⟨3, false, if w.s = 4 then 0 else w.n⟩
def openedF (w : Wt) : Wt × DoB :=
  if w.s = 0 then (⟨1, false, w.n⟩, ⟨false, false, false, false, false, true⟩)
  else if w.s = 3 then (⟨4, true, 0⟩, ⟨true, false, false, false, false, true⟩)
  else (w, noDo)
def brokenF (w : Wt) : Wt × DoB :=
  if w.s = 0 then (w, noDo) else if w.s = 3 then (w, noDo)
  else (goneF w, ⟨false, decide (w.s = 1), false, false, false, true⟩)
def heardF (w : Wt) (a : Bool) : Wt × DoB :=
  if w.s = 1 then (⟨w.s, w.p && !a, w.n⟩, ⟨false, false, false, false, false, true⟩)
  else if w.s = 2 then (⟨1, w.p && !a, w.n⟩, ⟨false, false, true, false, false, true⟩)
  else if w.s = 4 then
    if a = false then (w, noDo)
    else if w.n < 2 then (⟨w.s, false, w.n + 1⟩, noDo)
    else (⟨1, false, 0⟩, ⟨false, false, true, false, false, true⟩)
  else (w, noDo)
def alarmF (w : Wt) : Wt × DoB :=
  if w.s = 0 ∨ w.s = 3 then (w, ⟨false, false, false, false, true, true⟩)
  else if w.s = 2 ∨ (w.s = 4 ∧ w.p = true ∧ w.n < 0) then (goneF w, ⟨false, false, false, true, false, true⟩)
  else if w.p = false then (⟨w.s, true, w.n⟩, ⟨true, false, false, false, false, true⟩)
  else if w.s = 1 then (⟨2, w.p, w.n⟩, ⟨false, true, false, false, false, true⟩)
  else (⟨w.s, w.p, -1⟩, ⟨false, false, false, false, false, true⟩)

/-- A step of the watch; the last: the error. -/
def stepF (w : Wt) (e : Int) : Wt × DoB × Int :=
  if w.s < 0 ∨ w.s > 4 ∨ w.n < -1 ∨ w.n > 3 ∨ e < 1 ∨ e > 5 then (⟨0, false, 0⟩, noDo, 1)
  else if e = 1 then ((openedF w).1, (openedF w).2, 0)
  else if e = 2 then ((brokenF w).1, (brokenF w).2, 0)
  else if e = 3 then ((heardF w true).1, (heardF w true).2, 0)
  else if e = 4 then ((heardF w false).1, (heardF w false).2, 0)
  else ((alarmF w).1, (alarmF w).2, 0)
def bitsF (d : DoB) : Int :=
  (if d.ask then 1 else 0) + (if d.fail then 2 else 0) + (if d.back then 4 else 0) + (if d.close then 8 else 0) + (if d.tri then 16 else 0) + (if d.wind then 32 else 0)
/-- The document's table. -/
def tableF (w : Wt) (k : Int) : Wt × Int × Int :=
  if k = 1 then (⟨1, false, w.n⟩, 32, 0)
  else if k = 5 then (w, 48, 0)
  else if k = 13 then (⟨1, false, w.n⟩, 32, 0)
  else if k = 14 then (w, 32, 0)
  else if k = 15 then (if w.p = false then (⟨1, true, w.n⟩, 33, 0) else (⟨2, true, w.n⟩, 34, 0))
  else if k = 12 then (⟨3, false, w.n⟩, 34, 0)
  else if k = 23 then (⟨1, false, w.n⟩, 36, 0)
  else if k = 24 then (⟨1, w.p, w.n⟩, 36, 0)
  else if k = 25 then (⟨3, false, w.n⟩, 40, 0)
  else if k = 22 then (⟨3, false, w.n⟩, 32, 0)
  else if k = 31 then (⟨4, true, 0⟩, 33, 0)
  else if k = 35 then (w, 48, 0)
  else if k = 43 then (if w.n < 2 then (⟨4, false, w.n + 1⟩, 0, 0) else (⟨1, false, 0⟩, 36, 0))
  else if k = 45 then (if w.p = false then (⟨4, true, w.n⟩, 33, 0) else if w.n ≥ 0 then (⟨4, true, -1⟩, 32, 0) else (⟨3, false, 0⟩, 40, 0))
  else if k = 42 then (⟨3, false, 0⟩, 32, 0)
  else (w, 0, 0)
def watchedF (w : Wt) (e : Int) : Wt × Int × Int :=
  if w.s < 0 ∨ w.s > 4 ∨ w.n < -1 ∨ w.n > 3 ∨ e < 1 ∨ e > 5 then (⟨0, false, 0⟩, 0, 1) else tableF w (w.s * 10 + e)
/-- How many alarms a silent peer stands, at most. -/
def leftF (w : Wt) : Int :=
  if w.s = 3 then 0 else if w.s = 0 then 0
  else if w.s = 2 then 1
  else if w.s = 1 then (if w.p then 2 else 3)
  else if w.p then (if w.n < 0 then 1 else 2) else (if w.n < 0 then 2 else 3)
end Go.YM
namespace Go.YR
open Go.Y Go.YM

def iO (k : IntKind) (n : Int) : O := .d (.v (.int k n))
def bO (b : Bool) : O := .d (.v (.bool b))
def watchO (w : Wt) : List O := [iO .i64 w.s, bO w.p, iO .i64 w.n]
def doO (d : DoB) : List O := [bO d.ask, bO d.fail, bO d.back, bO d.close, bO d.tri, bO d.wind]
def wtOf : List O → Wt
  | .ptr _ [.d (.v (.int _ s)), .d (.v (.bool p)), .d (.v (.int _ n))] :: _ => ⟨s, p, n⟩
  | .agg [.d (.v (.int _ s)), .d (.v (.bool p)), .d (.v (.int _ n))] :: _ => ⟨s, p, n⟩
  | _ => ⟨0, false, 0⟩
def boolOf : List O → Bool
  | [_, .d (.v (.bool b))] => b
  | _ => false
def intOf : O → Int
  | .d (.v (.int _ n)) => n
  | _ => 0
def doOf : List O → DoB
  | [.agg [.d (.v (.bool a)), .d (.v (.bool b)), .d (.v (.bool c)), .d (.v (.bool d)), .d (.v (.bool e)), .d (.v (.bool f))]] => ⟨a, b, c, d, e, f⟩
  | _ => noDo

/-- A method of the watch, that turns it and tells what is to be done. -/
def methC (F : Wt → Wt × DoB) : Ctr where
  own := [true]
  pre := fun a => ∃ w, a = [.ptr 49 (watchO w)]
  res := fun a => [.agg (doO (F (wtOf a)).2)]
  upd := fun a => [.ptr 49 (watchO (F (wtOf a)).1)]
  ro := false
  quiet := false
def goneC : Ctr where
  own := [true]
  pre := fun a => ∃ w, a = [.ptr 49 (watchO w)]
  res := fun _ => []
  upd := fun a => [.ptr 49 (watchO (goneF (wtOf a)))]
  ro := false
  quiet := false
def heardC : Ctr where
  own := [true]
  pre := fun a => ∃ w b, a = [.ptr 49 (watchO w), bO b] ∧ -1 ≤ w.n ∧ w.n ≤ 3
  res := fun a => [.agg (doO (heardF (wtOf a) (boolOf a)).2)]
  upd := fun a => [.ptr 49 (watchO (heardF (wtOf a) (boolOf a)).1), .any]
  ro := false
  quiet := false
def stepC : Ctr where
  own := []
  pre := fun a => ∃ w e, a = [.agg (watchO w), iO .i64 e]
  res := fun a => [.agg (watchO (stepF (wtOf a) (intOf (a.getD 1 .any))).1), .agg (doO (stepF (wtOf a) (intOf (a.getD 1 .any))).2.1), iO .i64 (stepF (wtOf a) (intOf (a.getD 1 .any))).2.2]
  upd := fun _ => [.any, .any]
  ro := false
  quiet := false
def trueC (n : Nat) (pre : List O → Prop) : Ctr where
  own := []
  pre := pre
  res := fun _ => [bO true]
  upd := fun _ => List.replicate n .any
  ro := false
  quiet := true
def answersC : Ctr := trueC 0 fun a => a = []
def bytesC : Ctr := trueC 1 fun a => ∃ xs : List Int, a = [.d (.ints .u8 xs)] ∧ (∀ x, x ∈ xs → 0 ≤ x ∧ x ≤ 255) ∧ xs.length ≤ 9223372036854775807

def okW (w : Wt) : Prop := 0 ≤ w.s ∧ w.s ≤ 4 ∧ -1 ≤ w.n ∧ w.n ≤ 3
def watchI (w : Wt) : List OI := [.o (iO .i64 w.s), .o (bO w.p), .o (iO .i64 w.n)]
def walksAnn : LoopAnn where
  γ := Int × Bool × Wt
  pre := fun g => 0 ≤ g.1 ∧ g.1 ≤ 300 ∧ okW g.2.2 ∧ (g.2.1 = true → g.2.2.s ≠ 1)
  μ := fun g => (300 - g.1).toNat
  items := fun g => [(5, .c (iO .i64 g.1)), (4, .c (bO g.2.1)), (3, .blk (watchI g.2.2))]
def endAnn : LoopAnn where
  γ := Int × Wt
  pre := fun g => 0 ≤ g.1 ∧ g.1 ≤ 6 ∧ okW g.2 ∧ leftF g.2 + g.1 ≤ 6
  μ := fun g => (6 - g.1).toNat
  items := fun g => [(10, .c (iO .i64 g.1)), (3, .blk (watchI g.2))]
def c0 : List (Nat × Ctr) := []
def c1 : List (Nat × Ctr) := [(40, goneC)]
def c2 : List (Nat × Ctr) := [(32, methC openedF), (33, methC brokenF), (34, heardC), (35, methC alarmF)]
def c3 : List (Nat × Ctr) := [(19, stepC)]
def c5 : List (Nat × Ctr) := [(19, stepC), (21, answersC)]
end Go.YR
