/- A request that is sent on from node to node: data, plain functions, annotations. -/
import Derived.Test.YtgnfpcjndhnglaaB18
namespace Go.YM
open Go.Y
def eight : List ByteArray := [⟨#[110, 97]⟩, ⟨#[110, 98]⟩, ⟨#[110, 99]⟩, ⟨#[110, 100]⟩, ⟨#[110, 101]⟩, ⟨#[110, 102]⟩, ⟨#[110, 103]⟩, ⟨#[110, 104]⟩]
def nmF (k : Nat) : List ByteArray := eight.take k
def viaCell (l : List (List Int)) (i _j : Nat) : D := .ints .u8 (l.getD i [])
def listF (l : List Int) (k : Int) (j : Nat) : List Int := (l.take j).map fun x => (IntKind.i64.wrap x).tmod k
def peersF (a j : Nat) : List Int := ((List.range j).filter fun x => !decide (x = a)).map fun (x : Nat) => (x : Int)
/-- Where it is, and by way of whom it came. -/
structure EndS where
  i : Nat
  a : Nat
  fr : Int
  by_ : List ByteArray
def okEnd (k : Nat) (s : EndS) : Prop := s.a < k ∧ s.by_.length = s.i ∧ (∀ x, x ∈ s.by_ → x ∈ nmF k) ∧ s.by_.Nodup ∧ (nmF k).getD s.a noStr ∉ s.by_
end Go.YM
namespace Go.YR
open Go.Y Go.YM
def viasD (l : List (List Int)) : D := .recs 1 l.length (viaCell l)
def endsC : Ctr := trueC 2 fun a => ∃ (via : List (List Int)) (realm : ByteArray), a = [.d (viasD via), sO realm] ∧ small via.length ∧ (∀ l, l ∈ via → small l.length) ∧ realm.size ≤ 1048576
def endAnn (k : Nat) : LoopAnn where
  γ := EndS
  pre := okEnd k
  μ := fun s => 60 - s.i
  items := fun s => [(11, .c (iO .i64 (s.i : Int))), (8, .c (iO .i64 (s.a : Int))), (9, .c (iO .i64 s.fr)), (10, .c (.own 9 (strsD s.by_))), (6, .c (.d (.recs 1 k (strCell (nmF k)))))]
def lsAnn (via : List (List Int)) : LoopF := .fam Nat fun a =>
  { γ := Nat, pre := fun j => j ≤ (via.getD a []).length ∧ j ≤ 20, μ := fun j => 20 - j, items := fun j => [(13, .c (iO .i64 (j : Int))), (12, .c (.own 3 (.ints .i64 (listF (via.getD a []) via.length j))))] }
def prAnn (k : Nat) : LoopF := .fam Nat fun a =>
  { γ := Nat, pre := fun j => j ≤ k, μ := fun j => k - j, items := fun j => [(15, .c (iO .i64 (j : Int))), (14, .c (.own 3 (.ints .i64 (peersF a j))))] }
def byAnn : LoopF := .fam (List ByteArray) fun l =>
  { γ := Nat, pre := fun j => j ≤ l.length, μ := fun j => l.length - j, items := fun j => [(19, .c (iO .i64 (j : Int))), (10, .c (.own 9 (strsD l)))] }
def ownD : O → D
  | .own _ x => x
  | _ => .v (.bool false)
/-- As requestC; the list of names is lent as what is owned. -/
def requestOC : Ctr where
  own := [false, false, true]
  pre := fun a => ∃ r h b, a = [sO r, sO h, .own 9 (strsD b)] ∧ small b.length
  res := fun a => [reqMsg (reqF (vs (dO (at_ a 0))) (vs (dO (at_ a 1))) (strsOf (ownD (at_ a 2))))]
  upd := fun a => [.any, .any, .own 9 (ownD (at_ a 2))]
  ro := true
  quiet := false
def b20 : List (Nat × Ctr) := [(11, answersC), (13, pickWC), (17, nameOkC), (18, requestOC)]
end Go.YR
