/- The watch, as plain functions of numbers. -/
import Derived.Test.YtgnfpcjndhnglaaX27
namespace Go.XM
open Go.X

structure DoB where
  ask : Bool
  fail : Bool
  back : Bool
  close : Bool
  tri : Bool
  wind : Bool

/-- A watch: state, pending, seen. -/
structure Wt where
  s : Int
  p : Bool
  n : Int

def noDo : DoB := ⟨false, false, false, false, false, false⟩
def goneF (w : Wt) : Wt := ⟨3, false, if w.s = 4 then 0 else w.n⟩
def openedF (w : Wt) : Wt × DoB :=
  if w.s = 0 then (⟨1, false, w.n⟩, ⟨false, false, false, false, false, true⟩)
  else if w.s = 3 then (⟨4, true, 0⟩, ⟨true, false, false, false, false, true⟩)
  else (w, noDo)
def brokenF (w : Wt) : Wt × DoB :=
  if w.s = 0 then (w, noDo) else if w.s = 3 then (w, noDo)
  else (goneF w, ⟨false, decide (w.s = 1), false, false, false, true⟩)
def heardF (w : Wt) (a : Bool) : Wt × DoB :=
  if w.s = 1 then (⟨w.s, w.p && !a, w.n⟩, ⟨false, false, false, false, false, true⟩)
  else if w.s = 2 then (⟨1, w.p && !a, w.n⟩, ⟨false, false, true, false, false, true⟩)
  else if w.s = 4 then
    if a = false then (w, noDo)
    else if w.n < 2 then (⟨w.s, false, w.n + 1⟩, noDo)
    else (⟨1, false, 0⟩, ⟨false, false, true, false, false, true⟩)
  else (w, noDo)
def alarmF (w : Wt) : Wt × DoB :=
  if w.s = 0 ∨ w.s = 3 then (w, ⟨false, false, false, false, true, true⟩)
  else if w.s = 2 ∨ (w.s = 4 ∧ w.p = true ∧ w.n < 0) then (goneF w, ⟨false, false, false, true, false, true⟩)
  else if w.p = false then (⟨w.s, true, w.n⟩, ⟨true, false, false, false, false, true⟩)
  else if w.s = 1 then (⟨2, w.p, w.n⟩, ⟨false, true, false, false, false, true⟩)
  else (⟨w.s, w.p, -1⟩, ⟨false, false, false, false, false, true⟩)

/-- A step of the watch; the last: the error. -/
def stepF (w : Wt) (e : Int) : Wt × DoB × Int :=
  if w.s < 0 ∨ w.s > 4 ∨ w.n < -1 ∨ w.n > 3 ∨ e < 1 ∨ e > 5 then (⟨0, false, 0⟩, noDo, 1)
  else if e = 1 then ((openedF w).1, (openedF w).2, 0)
  else if e = 2 then ((brokenF w).1, (brokenF w).2, 0)
  else if e = 3 then ((heardF w true).1, (heardF w true).2, 0)
  else if e = 4 then ((heardF w false).1, (heardF w false).2, 0)
  else ((alarmF w).1, (alarmF w).2, 0)
def bitsF (d : DoB) : Int :=
  (if d.ask then 1 else 0) + (if d.fail then 2 else 0) + (if d.back then 4 else 0) + (if d.close then 8 else 0) + (if d.tri then 16 else 0) + (if d.wind then 32 else 0)
/-- The document's table. -/
def tableF (w : Wt) (k : Int) : Wt × Int × Int :=
  if k = 1 then (⟨1, false, w.n⟩, 32, 0)
  else if k = 5 then (w, 48, 0)
  else if k = 13 then (⟨1, false, w.n⟩, 32, 0)
  else if k = 14 then (w, 32, 0)
  else if k = 15 then (if w.p = false then (⟨1, true, w.n⟩, 33, 0) else (⟨2, true, w.n⟩, 34, 0))
  else if k = 12 then (⟨3, false, w.n⟩, 34, 0)
  else if k = 23 then (⟨1, false, w.n⟩, 36, 0)
  else if k = 24 then (⟨1, w.p, w.n⟩, 36, 0)
  else if k = 25 then (⟨3, false, w.n⟩, 40, 0)
  else if k = 22 then (⟨3, false, w.n⟩, 32, 0)
  else if k = 31 then (⟨4, true, 0⟩, 33, 0)
  else if k = 35 then (w, 48, 0)
  else if k = 43 then (if w.n < 2 then (⟨4, false, w.n + 1⟩, 0, 0) else (⟨1, false, 0⟩, 36, 0))
  else if k = 45 then (if w.p = false then (⟨4, true, w.n⟩, 33, 0) else if w.n ≥ 0 then (⟨4, true, -1⟩, 32, 0) else (⟨3, false, 0⟩, 40, 0))
  else if k = 42 then (⟨3, false, 0⟩, 32, 0)
  else (w, 0, 0)
def watchedF (w : Wt) (e : Int) : Wt × Int × Int :=
  if w.s < 0 ∨ w.s > 4 ∨ w.n < -1 ∨ w.n > 3 ∨ e < 1 ∨ e > 5 then (⟨0, false, 0⟩, 0, 1) else tableF w (w.s * 10 + e)
end Go.XM
namespace Go.XR
open Go.X Go.XM

def watchD (w : Wt) : List D := [.v (.int .i64 w.s), .v (.bool w.p), .v (.int .i64 w.n)]
def doD (d : DoB) : List D := [.v (.bool d.ask), .v (.bool d.fail), .v (.bool d.back), .v (.bool d.close), .v (.bool d.tri), .v (.bool d.wind)]
def wtOf : List AD → Wt
  | .ptr _ [.v (.int _ s), .v (.bool p), .v (.int _ n)] :: _ => ⟨s, p, n⟩
  | .agg [.v (.int _ s), .v (.bool p), .v (.int _ n)] :: _ => ⟨s, p, n⟩
  | _ => ⟨0, false, 0⟩
def boolOf : List AD → Bool
  | [_, .v (.bool b)] => b
  | _ => false

/-- A method of the watch, that turns it and tells what is to be done. -/
def methC (F : Wt → Wt × DoB) : Ctr where
  pre := fun a => ∃ w, a = [.ptr 49 (watchD w)]
  res := fun a => [.agg (doD (F (wtOf a)).2)]
  upd := fun a => [watchD (F (wtOf a)).1]
  ro := false
  quiet := false
def goneC : Ctr where
  pre := fun a => ∃ w, a = [.ptr 49 (watchD w)]
  res := fun _ => []
  upd := fun a => [watchD (goneF (wtOf a))]
  ro := false
  quiet := false
def heardC : Ctr where
  pre := fun a => ∃ w b, a = [.ptr 49 (watchD w), .v (.bool b)] ∧ -1 ≤ w.n ∧ w.n ≤ 3
  res := fun a => [.agg (doD (heardF (wtOf a) (boolOf a)).2)]
  upd := fun a => [watchD (heardF (wtOf a) (boolOf a)).1]
  ro := false
  quiet := false

def intOf : AD → Int
  | .v (.int _ n) => n
  | _ => 0
def doOf : List AD → DoB
  | [.agg [.v (.bool a), .v (.bool b), .v (.bool c), .v (.bool d), .v (.bool e), .v (.bool f)]] => ⟨a, b, c, d, e, f⟩
  | _ => noDo
def in64 (n : Int) : Prop := -9223372036854775808 ≤ n ∧ n ≤ 9223372036854775807
def stepC : Ctr where
  pre := fun a => ∃ w e, a = [.agg (watchD w), .v (.int .i64 e)]
  res := fun a => [.agg (watchD (stepF (wtOf a) (intOf (a.getD 1 (.v undef)))).1), .agg (doD (stepF (wtOf a) (intOf (a.getD 1 (.v undef)))).2.1), .v (.int .i64 (stepF (wtOf a) (intOf (a.getD 1 (.v undef)))).2.2)]
  upd := fun _ => []
  ro := true
  quiet := false
def watchedC : Ctr where
  pre := fun a => ∃ w e, a = [.agg (watchD w), .v (.int .i64 e)]
  res := fun a => [.agg (watchD (watchedF (wtOf a) (intOf (a.getD 1 (.v undef)))).1), .v (.int .i64 (watchedF (wtOf a) (intOf (a.getD 1 (.v undef)))).2.1), .v (.int .i64 (watchedF (wtOf a) (intOf (a.getD 1 (.v undef)))).2.2)]
  upd := fun _ => []
  ro := true
  quiet := false
def bitsC : Ctr where
  pre := fun a => ∃ d, a = [.agg (doD d)]
  res := fun a => [.v (.int .i64 (bitsF (doOf a)))]
  upd := fun _ => []
  ro := false
  quiet := true
def trueC (pre : List AD → Prop) : Ctr where
  pre := pre
  res := fun _ => [.v (.bool true)]
  upd := fun _ => []
  ro := false
  quiet := true
def answersC : Ctr := trueC fun a => a = []
def stepsC : Ctr := trueC fun a => ∃ s n e p, a = [.v (.int .i64 s), .v (.int .i64 n), .v (.int .i64 e), .v (.bool p)]
def bytesC : Ctr := trueC fun a => ∃ xs : List Int, a = [.d (.ints .u8 xs)] ∧ (∀ x, x ∈ xs → 0 ≤ x ∧ x ≤ 255) ∧ xs.length ≤ 9223372036854775807
def trustsC : Ctr := trueC fun a => ∃ o : Int, a = [.v (.int .u8 o)] ∧ 0 ≤ o ∧ o ≤ 255
def asksAnn : LoopAnn where
  γ := Int × Bool
  pre := fun g => 0 ≤ g.1 ∧ g.1 ≤ 200
  μ := fun g => (200 - g.1).toNat
  items := fun g => [(4, .c (.v (.int .i64 g.1))), (3, .blk [.v (.int .i64 1), .v (.bool g.2), .v (.int .i64 0)])]
def trustsAnn : LoopAnn where
  γ := Int
  pre := fun i => 0 ≤ i ∧ i ≤ 3
  μ := fun i => (3 - i).toNat
  items := fun i => [(6, .c (.v (.int .i64 i))), (3, .blk [.v (.int .i64 (if i = 3 then 1 else 4)), .v (.bool (!decide (i = 3))), .v (.int .i64 (if i = 3 then 0 else i))]),
    (4, .blk [.unk, .unk, .v (.bool (decide (i = 3))), .unk, .unk, .unk])]
def othersAnn : LoopAnn where
  γ := Int
  pre := fun k => 0 ≤ k ∧ k ≤ 3
  μ := fun k => (4 - k).toNat
  items := fun k => [(7, .c (.v (.int .i64 k))), (3, .blk [.same, .same, .same])]
def c5 : List (Nat × Ctr) := [(19, stepC), (21, answersC)]
def c2 : List (Nat × Ctr) := [(32, methC openedF), (33, methC brokenF), (34, heardC), (35, methC alarmF)]
def c3 : List (Nat × Ctr) := [(19, stepC)]
def c4 : List (Nat × Ctr) := [(19, stepC), (20, watchedC), (21, answersC), (22, bitsC)]
def c0 : List (Nat × Ctr) := []
def c1 : List (Nat × Ctr) := [(40, goneC)]
end Go.XR
