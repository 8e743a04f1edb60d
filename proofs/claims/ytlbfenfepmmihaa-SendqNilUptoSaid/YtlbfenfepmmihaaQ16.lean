/- Part 16 of what the closing text rests on. -/
import Derived.Test.YtlbfenfepmmihaaQ15
import Derived.Test.YtlbfenfepmmihaaRows
set_option maxRecDepth 100000
namespace Go.ZM
open Go.Z Go.ZR

structure PieR where
  tsn : Int
  str : Int
  seq : Int
  b : Bool
  e : Bool
  u : Bool
  bytes : List Int
def noPie : PieR := ⟨0, 0, 0, false, false, false, []⟩
def badPie (c : ChR) : Prop := c.t ≠ 0 ∨ 7 < c.f ∨ c.v.length < 13 ∨ 268 < c.v.length ∨ 8 ≤ numAt c.v 4 2 ∨ numAt c.v 8 4 ≠ 46
instance (c : ChR) : Decidable (badPie c) := by unfold badPie; infer_instance
end Go.ZM
namespace Go.ZR
open Go.Z Go.ZM Go.Proofs
def pieL (p : PieR) (ck : O) : O := .agg [iO .u32 p.tsn, iO .u16 p.str, iO .u16 p.seq, bO p.b, bO p.e, bO p.u, ck]
def pieO (p : PieR) : O := pieL p (bsO p.bytes)
def pieN (p : PieR) : O := pieL p (bsN p.bytes)
def pieOfO : O → PieR
  | .agg [a, b, c, d, e, f, g] => ⟨vi (dO a), vi (dO b), vi (dO c), vb (dO d), vb (dO e), vb (dO f), vl (dO g)⟩
  | _ => noPie
end Go.ZR

set_option maxRecDepth 100000
namespace Go.ZM
open Go.Z Go.ZR

structure HeaR where
  cum : Int
  win : Int
  gaps : List (Int × Int)
  dups : List Int
def noHea : HeaR := ⟨0, 0, [], []⟩
def gapCell (l : List (Int × Int)) (i j : Nat) : D :=
  match j with
  | 0 => .v (.int .u16 (l.getD i (0, 0)).1)
  | _ => .v (.int .u16 (l.getD i (0, 0)).2)
def gapAt (g : Nat → D) : Int × Int := (vi (g 0), vi (g 1))
def gapsOf : D → List (Int × Int)
  | .recs _ n f => (List.range n).map fun i => gapAt (f i)
  | _ => []
theorem gapsOf_gaps (l : List (Int × Int)) : gapsOf (.recs 2 l.length (gapCell l)) = l := range_getD l (0, 0)
def okG (g : Int × Int) : Prop := (0 ≤ g.1 ∧ g.1 ≤ 65535) ∧ (0 ≤ g.2 ∧ g.2 ≤ 65535)
def okGs (l : List (Int × Int)) : Prop := l.length ≤ 1073741824 ∧ ∀ g, g ∈ l → okG g
def okDs (l : List Int) : Prop := l.length ≤ 1073741824 ∧ ∀ n, n ∈ l → 0 ≤ n ∧ n ≤ 4294967295
def okHea (h : HeaR) : Prop := (0 ≤ h.cum ∧ h.cum ≤ 4294967295) ∧ (0 ≤ h.win ∧ h.win ≤ 4294967295) ∧ okGs h.gaps ∧ okDs h.dups
def apartG : Int → List (Int × Int) → Bool
  | _, [] => true
  | a, g :: l => if g.1 < a + 2 ∨ g.2 < g.1 then false else apartG g.2 l
def apartF (l : List (Int × Int)) : Bool := apartG 0 l
def nGap (v : List Int) : Int := numAt v 8 2
def nDup (v : List Int) : Int := numAt v 10 2
def badHea (c : ChR) : Prop := c.t ≠ 3 ∨ c.f ≠ 0 ∨ c.v.length < 12 ∨ 64 < nGap c.v ∨ 64 < nDup c.v
instance (c : ChR) : Decidable (badHea c) := by unfold badHea; infer_instance
end Go.ZM

set_option maxRecDepth 100000
namespace Go.ZR
open Go.Z Go.ZM Go.Proofs
def gapsD (l : List (Int × Int)) : D := .recs 2 l.length (gapCell l)
def dupsD (l : List Int) : D := .ints .u32 l
def heaO (h : HeaR) : O := .agg [iO .u32 h.cum, iO .u32 h.win, .d (gapsD h.gaps), .d (dupsD h.dups)]
def heaOfO : O → HeaR
  | .agg [a, b, c, d] => ⟨vi (dO a), vi (dO b), gapsOf (dO c), vl (dO d)⟩
  | _ => noHea
def apartC : Ctr := nC 1 true (fun a => ∃ l, a = [.d (gapsD l)] ∧ okGs l) fun a => [bO (apartF (gapsOf (dO (at_ a 0))))]
def apartAnn (s t : Nat) (l : List (Int × Int)) : LoopAnn where
  γ := Nat × Int
  pre := fun g => g.1 ≤ l.length ∧ (0 ≤ g.2 ∧ g.2 ≤ 65535) ∧ apartG g.2 (l.drop g.1) = apartF l
  μ := fun g => l.length - g.1
  items := fun g => [(s, .c (iO .i64 (g.1 : Int))), (t, .c (iO .i64 g.2))]
end Go.ZR

set_option maxRecDepth 100000
namespace Go.ZM
open Go.Z Go.ZR
structure ItR where
  pc : PieR
  path : Int
  missed : Int
  heard : Bool
  marked : Bool
def noIt : ItR := ⟨noPie, 0, 0, false, false⟩
structure QuR where
  next : Int
  wait : List PieR
  out : List ItR
def noQu : QuR := ⟨0, [], []⟩
def newQ (f : Int) : QuR := ⟨f, [], []⟩
def u32 (x : Int) : Int := x % 4294967296
def i64w (x : Int) : Int := IntKind.i64.wrap x
def pieCell (l : List PieR) (i j : Nat) : D :=
  match j with
  | 0 => .v (.int .u32 (l.getD i noPie).tsn)
  | 1 => .v (.int .u16 (l.getD i noPie).str)
  | 2 => .v (.int .u16 (l.getD i noPie).seq)
  | 3 => .v (.bool (l.getD i noPie).b)
  | 4 => .v (.bool (l.getD i noPie).e)
  | 5 => .v (.bool (l.getD i noPie).u)
  | _ => .ints .u8 (l.getD i noPie).bytes
def itCell (l : List ItR) (i j : Nat) : D :=
  match j with
  | 0 => .v (.int .u32 (l.getD i noIt).pc.tsn)
  | 1 => .v (.int .u16 (l.getD i noIt).pc.str)
  | 2 => .v (.int .u16 (l.getD i noIt).pc.seq)
  | 3 => .v (.bool (l.getD i noIt).pc.b)
  | 4 => .v (.bool (l.getD i noIt).pc.e)
  | 5 => .v (.bool (l.getD i noIt).pc.u)
  | 6 => .ints .u8 (l.getD i noIt).pc.bytes
  | 7 => .v (.int .i64 (l.getD i noIt).path)
  | 8 => .v (.int .i64 (l.getD i noIt).missed)
  | 9 => .v (.bool (l.getD i noIt).heard)
  | _ => .v (.bool (l.getD i noIt).marked)
def pieAt (g : Nat → D) : PieR := ⟨vi (g 0), vi (g 1), vi (g 2), vb (g 3), vb (g 4), vb (g 5), vl (g 6)⟩
def itAt (g : Nat → D) : ItR := ⟨pieAt g, vi (g 7), vi (g 8), vb (g 9), vb (g 10)⟩
def piesOf : D → List PieR
  | .recs _ n f => (List.range n).map fun i => pieAt (f i)
  | _ => []
def itsOf (n : Nat) (f : Nat → Nat → D) : List ItR := (List.range n).map fun i => itAt (f i)
theorem piesOf_pies (l : List PieR) : piesOf (.recs 7 l.length (pieCell l)) = l := range_getD l noPie
theorem itsOf_its (l : List ItR) : itsOf l.length (itCell l) = l := range_getD l noIt

def cumQ (q : QuR) : Int := u32 (u32 (q.next - u32 ((q.wait.length : Int) + q.out.length)) - 1)
def pushQ (q : QuR) (p : PieR) : QuR × Int × Int :=
  if p.bytes.length = 0 ∨ 256 < p.bytes.length then (q, 0, 2) else if 256 ≤ q.wait.length + q.out.length then (q, 0, 10) else
  (⟨u32 (q.next + 1), q.wait ++ [{ p with tsn := q.next }], q.out⟩, q.next, 0)
def sendI (p : Int) (x : ItR) : ItR := { x with path := p, missed := 0, marked := false }
def markQ (l : List ItR) : Option Nat := l.findIdx? (·.marked)
def nextQ (q : QuR) (p : Int) : QuR × PieR × Bool :=
  match markQ q.out with
  | some k => (⟨q.next, q.wait, q.out.set k (sendI p (q.out.getD k noIt))⟩, (q.out.getD k noIt).pc, true)
  | none => match q.wait with
    | [] => (q, noPie, false)
    | x :: l => (⟨q.next, l, q.out ++ [⟨x, p, 0, false, false⟩]⟩, x, true)
def idxO : Option Nat → Int
  | some k => (k : Int)
  | none => -1
def noteA (ac : List Int) (x : ItR) : List Int :=
  if x.heard = false ∧ 0 ≤ x.path ∧ x.path < 2 then ac.set x.path.toNat (i64w (ac.getD x.path.toNat 0 + x.pc.bytes.length)) else ac
def noteI (x : ItR) : ItR := { x with heard := true, marked := false }
def hitG (l : List (Int × Int)) (d : Int) : Bool := l.any fun g => decide (g.1 ≤ d) && decide (d ≤ g.2)
def gapI (g : List (Int × Int)) (i : Nat) (x : ItR) : ItR := if hitG g (i + 1) = true then noteI x else { x with heard := false }
def gapA (g : List (Int × Int)) (i : Nat) (ac : List Int) (x : ItR) : List Int := if hitG g (i + 1) = true then noteA ac x else ac
def lastG (g : List (Int × Int)) : Nat → Int
  | 0 => -1
  | i + 1 => if hitG g (i + 1) = true then (i : Int) else lastG g i
def fliesI (x : ItR) : Bool := !x.heard && !x.marked
def missI (x : ItR) : ItR := if fliesI x = true then (if x.missed + 1 = 3 then { x with missed := 0, marked := true } else { x with missed := x.missed + 1 }) else x
def missF (fast : List Int) (x : ItR) : List Int := if fliesI x = true ∧ x.missed + 1 = 3 ∧ x.path ∉ fast then fast ++ [x.path] else fast
def mapTo {α : Type} (f : Nat → α → α) (l : List α) (k : Nat) : List α := (l.take k).mapIdx f ++ l.drop k
def foldTo {α β : Type} (f : Nat → β → α → β) (b : β) (l : List α) (k : Nat) : β := ((l.take k).zipIdx).foldl (fun b x => f x.2 b x.1) b
def doneQ (q : QuR) (h : HeaR) : Nat := (u32 (h.cum - cumQ q)).toNat
def inQ (q : QuR) (h : HeaR) : Bool := decide (u32 (h.cum - cumQ q) ≤ u32 (u32 (cumQ q + q.out.length) - cumQ q))
def ac1 (q : QuR) (k : Nat) : List Int := (q.out.take k).foldl noteA [0, 0]
def out1 (q : QuR) (h : HeaR) : List ItR := q.out.drop (doneQ q h)
def ac2 (q : QuR) (h : HeaR) (k : Nat) : List Int := foldTo (gapA h.gaps) (ac1 q (doneQ q h)) (out1 q h) k
def out2 (q : QuR) (h : HeaR) : List ItR := (out1 q h).mapIdx (gapI h.gaps)
def last2 (q : QuR) (h : HeaR) : Nat := (lastG h.gaps (out1 q h).length + 1).toNat
def fast3 (q : QuR) (h : HeaR) (k : Nat) : List Int := ((out2 q h).take k).foldl missF []
def out3 (q : QuR) (h : HeaR) : List ItR := mapTo (fun _ => missI) (out2 q h) (last2 q h)
structure HdR where
  q : QuR
  ac : List Int
  fast : List Int
  e : Int
def heardQ (q : QuR) (h : HeaR) : HdR :=
  if apartF h.gaps = false then ⟨q, [], [], 2⟩ else if inQ q h = false then ⟨q, [], [], 15⟩ else
  ⟨⟨q.next, q.wait, out3 q h⟩, ac2 q h (out1 q h).length, fast3 q h (last2 q h), 0⟩
def lateI (p : Int) (x : ItR) : ItR := if x.path = p ∧ fliesI x = true then { x with marked := true } else x
def okIt (x : ItR) : Prop := x.pc.bytes.length ≤ 256 ∧ 0 ≤ x.missed ∧ x.missed ≤ 2
def okQ (q : QuR) : Prop := (0 ≤ q.next ∧ q.next ≤ 4294967295) ∧ q.wait.length + q.out.length ≤ 256 ∧ (∀ p ∈ q.wait, p.bytes.length ≤ 256) ∧ ∀ x ∈ q.out, okIt x
def oneP (q : QuR) : Prop := ∀ x ∈ q.out, x.path = 0
end Go.ZM
namespace Go.ZR
open Go.Z Go.ZM Go.Proofs
def quL (q : QuR) : List O := [iO .u32 q.next, .own 86 (.recs 7 q.wait.length (pieCell q.wait)), .pown 169 171 11 none q.out.length (itCell q.out)]
def quO (q : QuR) : O := .ptr 166 (quL q)
def quB (bs : List Nat) (q : QuR) : O := .ptr 166 [iO .u32 q.next, .own 86 (.recs 7 q.wait.length (pieCell q.wait)), .pown 169 171 11 (some bs) q.out.length (itCell q.out)]
def itsD (l : List ItR) : D := .recs 1 l.length (fun i _ => .ptr 171 11 (itCell l i))
def quD (n : Int) (w : List PieR) (l : List ItR) : D := ptrD 166 [.v (.int .u32 n), .recs 7 w.length (pieCell w), itsD l]
def hitD (d : Int) : D := fnD 89 0 [ptrD 3 [.v (.int .i64 d)]]
def hitX : D → Int
  | .fn _ _ _ F => match F 0 with
    | .ptr _ _ G => vi (G 0)
    | _ => 0
  | _ => 0
def oD : O → D
  | .own _ x => x
  | .d x => x
  | _ => .v undef
def pwI : O → List ItR
  | .pown _ _ _ _ n f => itsOf n f
  | _ => []
def quOf : O → QuR
  | .ptr 166 [a, b, c] => ⟨vi (dO a), piesOf (oD b), pwI c⟩
  | _ => noQu
theorem quOf_quO (q : QuR) : quOf (quO q) = q := by
  obtain ⟨n, w, o⟩ := q
  show QuR.mk n (piesOf (.recs 7 w.length (pieCell w))) (itsOf o.length (itCell o)) = _
  rw [piesOf_pies, itsOf_its]
def itG : D → ItR
  | .ptr _ _ g => itAt g
  | _ => noIt
def itsD_of : D → List ItR
  | .recs _ n f => (List.range n).map fun i => itG (f i 0)
  | _ => []
theorem itsD_its (l : List ItR) : itsD_of (itsD l) = l := range_getD l noIt
def quC (n : Nat) (pre : List O → Prop) (f : List O → QuR) (res : List O → List O) : Ctr where
  own := true :: List.replicate n false
  pre := pre
  res := res
  upd := fun a => quO (f a) :: List.replicate n .any
  ro := true
  quiet := false
def newQC : Ctr where
  own := [false]
  pre := fun a => ∃ f, a = [iO .u32 f]
  res := fun a => [quO (newQ (vi (dO (at_ a 0))))]
  upd := fun _ => [.any]
  ro := true
  quiet := false
def qA (a : List O) : QuR := quOf (at_ a 0)
def pushA (a : List O) : QuR × Int × Int := pushQ (qA a) (pieOfO (at_ a 1))
def pushQC : Ctr := quC 1 (fun a => ∃ bs q p, a = [quB bs q, pieO p] ∧ okQ q ∧ sm p.bytes.length) (fun a => (pushA a).1) fun a => [iO .u32 (pushA a).2.1, iO .i64 (pushA a).2.2]
def nextA (a : List O) : QuR × PieR × Bool := nextQ (qA a) (vi (dO (at_ a 1)))
def nextQC : Ctr := quC 1 (fun a => ∃ bs q p, a = [quB bs q, iO .i64 p] ∧ okQ q) (fun a => (nextA a).1) fun a => [pieN (nextA a).2.1, bO (nextA a).2.2]
def heardA (a : List O) : HdR := heardQ (qA a) (heaOfO (at_ a 1))
def heardQC : Ctr := quC 1 (fun a => ∃ bs q h, a = [quB bs q, heaO h] ∧ okQ q ∧ oneP q ∧ okHea h) (fun a => (heardA a).q) fun a => [.own 3 (.ints .i64 (heardA a).ac), .own 3 (.ints .i64 (heardA a).fast), iO .i64 (heardA a).e]
def cumQC : Ctr := nC 1 true (fun a => ∃ (n : Int) (w : List PieR) (l : List ItR), a = [.d (quD n w l)] ∧ w.length + l.length ≤ 256) fun a => match at_ a 0 with
  | .d (.ptr _ _ g) => [iO .u32 (cumQ ⟨vi (g 0), piesOf (g 1), itsD_of (g 2)⟩)]
  | _ => []
def hitC : Ctr := nC 2 true (fun a => ∃ (l : List (Int × Int)) (d : Int), a = [.d (gapsD l), .d (hitD d)] ∧ okGs l) fun a => [bO (hitG (gapsOf (dO (at_ a 0))) (hitX (dO (at_ a 1))))]
def markC : Ctr := nC 2 true (fun a => ∃ (l : List ItR), a = [.d (itsD l), .d (fnD 84 0 [])] ∧ l.length ≤ 256) fun a => [iO .i64 (idxO (markQ (itsD_of (dO (at_ a 0)))))]
def hasC : Ctr := nC 2 true (fun a => ∃ (l : List Int) (x : Int), a = [.d (.ints .i64 l), iO .i64 x] ∧ l.length ≤ 256) fun a => [bO (decide (vi (dO (at_ a 1)) ∈ vl (dO (at_ a 0))))]
end Go.ZR

set_option maxRecDepth 100000
namespace Go.ZR
open Go.Z Go.ZM Go.Proofs
def hitAnn (s : Nat) (l : List (Int × Int)) (d : Int) : LoopAnn where
  γ := Nat
  pre := fun i => i ≤ l.length ∧ hitG (l.take i) d = false
  μ := fun i => l.length - i
  items := fun i => [(s, .c (iO .i64 (i : Int)))]
def markAnn (s : Nat) (l : List ItR) : LoopAnn where
  γ := Nat
  pre := fun i => i ≤ l.length ∧ markQ (l.take i) = none
  μ := fun i => l.length - i
  items := fun i => [(s, .c (iO .i64 (i : Int)))]
def hasAnn (s : Nat) (l : List Int) (x : Int) : LoopAnn where
  γ := Nat
  pre := fun i => i ≤ l.length ∧ x ∉ l.take i
  μ := fun i => l.length - i
  items := fun i => [(s, .c (iO .i64 (i : Int)))]
def n0 : List (Nat × Ctr) := []
theorem n0_ok : COk Go.Proofs.Try.prog (ctrs n0) := cok_nil
end Go.ZR

namespace Go.ZR
open Go.Proofs
open Go.Z Go.ZM Go.RowKit
set_option maxRecDepth 100000
theorem hit_step {l : List (Int × Int)} {i : Nat} (h : i < l.length) (d : Int) : hitG (l.take (i + 1)) d = (hitG (l.take i) d || (decide ((l.getD i (0, 0)).1 ≤ d) && decide (d ≤ (l.getD i (0, 0)).2))) := by
  unfold hitG
  rw [List.take_succ_eq_append_getElem h, List.any_append]
  simp [List.getD, List.getElem?_eq_getElem h]
theorem hit_more {l : List (Int × Int)} {i : Nat} (h : i < l.length) {d : Int} (h1 : (l.getD i (0, 0)).1 ≤ d) (h2 : d ≤ (l.getD i (0, 0)).2) : hitG l d = true := by
  unfold hitG
  rw [List.any_eq_true]
  refine ⟨l.getD i (0, 0), ?_, by rw [decide_eq_true h1, decide_eq_true h2]; rfl⟩
  simp [List.getD, List.getElem?_eq_getElem h]
theorem mark_step {l : List ItR} {i : Nat} (h : i < l.length) : markQ (l.take (i + 1)) = (markQ (l.take i)).or (if (l.getD i noIt).marked = true then some i else none) := by
  unfold markQ
  rw [List.take_succ_eq_append_getElem h, List.findIdx?_append]
  have e : l.getD i noIt = l[i] := by simp [List.getD, List.getElem?_eq_getElem h]
  rw [e]
  cases List.findIdx? (fun x => x.marked) (l.take i) with
  | some k => rfl
  | none =>
    cases hm : l[i].marked <;> simp [hm, List.length_take, Nat.min_eq_left (Nat.le_of_lt h)]
theorem mark_at {l : List ItR} {i : Nat} (h : i < l.length) (h1 : markQ (l.take i) = none) (h2 : (l.getD i noIt).marked = true) : markQ l = some i := by
  have h3 := mark_step h
  rw [h1, if_pos h2] at h3
  unfold markQ at *
  rw [← List.take_append_drop (i + 1) l, List.findIdx?_append, h3]
  rfl
theorem i64_u16 {x : Int} (h : 0 ≤ x ∧ x ≤ 65535) : IntKind.i64.wrap x = x := wrap_i64_id (by omega) (by omega)
theorem has_at {l : List Int} {x : Int} {i : Nat} (h : i < l.length) (e : x = l.getD i 0) : x ∈ l := by
  rw [e]
  simp [List.getD, List.getElem?_eq_getElem h]
theorem has_step {l : List Int} {x : Int} {i : Nat} (h : i < l.length) (h1 : x ∉ l.take i) (e : ¬ x = l.getD i 0) : x ∉ l.take (i + 1) := by
  rw [List.take_succ_eq_append_getElem h, List.mem_append]
  rintro (h2 | h2)
  · exact h1 h2
  · simp at h2
    exact e (by simp [List.getD, List.getElem?_eq_getElem h, h2])
theorem gd_mem {α : Type} {l : List α} {i : Nat} (h : i < l.length) (d : α) : l.getD i d ∈ l := by
  simp [List.getD, List.getElem?_eq_getElem h]
noncomputable def iN1c89 : Code := match Try.f89.body with | some c => c | none => .skip
noncomputable def iN1_89 : InlF := ⟨iN1c89, Try.f89.ntmps, Try.f89.results.toList, anns []⟩
noncomputable def iN1c84 : Code := match Try.f84.body with | some c => c | none => .skip
noncomputable def iN1_84 : InlF := ⟨iN1c84, Try.f84.ntmps, Try.f84.results.toList, anns []⟩
noncomputable def iN1c129 : Code := match Try.f129.body with | some c => c | none => .skip
noncomputable def iN1_129 : InlF := ⟨iN1c129, Try.f129.ntmps, Try.f129.results.toList, anns [(2, .fam (List (Int × Int) × Int) (fun p => hitAnn 8 p.1 p.2))]⟩
noncomputable def iN1c130 : Code := match Try.f130.body with | some c => c | none => .skip
noncomputable def iN1_130 : InlF := ⟨iN1c130, Try.f130.ntmps, Try.f130.results.toList, anns [(2, .fam (List Int × Int) (fun p => hasAnn 8 p.1 p.2))]⟩
noncomputable def iN1 : List (Nat × InlF) := [(89, iN1_89), (84, iN1_84), (129, iN1_129), (130, iN1_130)]
theorem iN1_ok : InlsOk Try.prog iN1 := ⟨inlOk Try.func89 (by kernel_rfl) (by kernel_rfl), inlOk Try.func84 (by kernel_rfl) (by kernel_rfl), inlOk Try.func129 (by kernel_rfl) (by kernel_rfl), inlOk Try.func130 (by kernel_rfl) (by kernel_rfl), trivial⟩
noncomputable def code51 : Code := match Try.f51.body with | some c => c | none => .skip
set_option maxHeartbeats 4000000 in
theorem vc51 : ∀ (n : Int) (w : List PieR) (l : List ItR), w.length + l.length ≤ (256 : Nat) → True ∧ True ∧ True ∧ IntKind.u32.wrap (IntKind.u32.wrap (n - IntKind.u32.wrap (IntKind.i64.wrap ((↑w.length : Int) + (↑l.length : Int)))) - (1 : Int)) = cumQ (QuR.mk n (piesOf ([D.v (Value.int IntKind.u32 n), D.recs (7 : Nat) w.length (pieCell w), D.recs (1 : Nat) l.length fun (i _x : Nat) => D.ptr (171 : Nat) (11 : Nat) (itCell l i)].getD (1 : Nat) (D.v undef))) (List.map (fun (i : Nat) => ItR.mk (pieAt (itCell l i)) (l.getD i noIt).path (l.getD i noIt).missed (l.getD i noIt).heard (l.getD i noIt).marked) (List.range l.length))) ∧
  (true && true) = true := by
  simp only [↓Bool.and_eq_true, true_and, and_true, List.getD_cons_succ, List.getD_cons_zero]
  intro n w l h
  show _ = cumQ ⟨n, piesOf (.recs 7 w.length (pieCell w)), itsD_of (itsD l)⟩
  rw [piesOf_pies, itsD_its]
  unfold cumQ u32
  simp only [IntKind.wrap_u32]
  rw [wrap_i64_id (by omega) (by omega)]
set_option maxRecDepth 100000 in
theorem ok51 : FnIs Try.prog 51 cumQC := by
  refine fnIs (C := (ctrs c0)) (by kernel_rfl) c0_ok Try.func51 (code := code51) (by kernel_rfl) (by kernel_rfl) ?_
  rintro a ⟨n, w, l, rfl, h⟩
  exact ⟨anns [], kcast (vc51 n w l h) (by kernel_rfl)⟩

noncomputable def code88 : Code := match Try.f88.body with | some c => c | none => .skip
set_option maxHeartbeats 4000000 in
theorem vc88 : ∀ (l : List (Int × Int)) (d : Int), okGs l → ∃ (p : List (Int × Int) × Int), ∃ (g0 : Nat), (g0 ≤ p.fst.length ∧ hitG (List.take g0 p.fst) p.snd = false) ∧
  (0 : Int) = (↑g0 : Int) ∧ (true && true) = true ∧ ∀ (g : Nat), g ≤ p.fst.length ∧ hitG (List.take g p.fst) p.snd = false → True ∧ sw (decide ((↑g : Int) < (↑l.length : Int))) (((0 : Int) ≤ (↑g : Int) ∧
  (↑g : Int) < (↑l.length : Int)) ∧ True ∧ sw (decide (IntKind.i64.wrap (l.getD (↑g : Int).toNat ((0 : Int), (0 : Int))).fst ≤ d)) (SV.c (Value.int IntKind.i64 d) = SV.c (Value.int IntKind.i64 d)) True ∧
  sw (decide (IntKind.i64.wrap (l.getD (↑g : Int).toNat ((0 : Int), (0 : Int))).fst ≤ d)) (SV.p (2 : Nat) (1 : Nat) = SV.p (2 : Nat) (1 : Nat)) True ∧ sw (decide (IntKind.i64.wrap (l.getD (↑g : Int).toNat ((0 : Int), (0 : Int))).fst ≤ d)) ([decide (IntKind.i64.wrap (l.getD (↑g : Int).toNat ((0 : Int), (0 : Int))).fst ≤ d)] = [decide (IntKind.i64.wrap (l.getD (↑g : Int).toNat ((0 : Int), (0 : Int))).fst ≤ d)] ∧
  SV.c (Value.int IntKind.u16 (l.getD (↑g : Int).toNat ((0 : Int), (0 : Int))).snd) = SV.c (Value.int IntKind.u16 (l.getD (↑g : Int).toNat ((0 : Int), (0 : Int))).snd)) True ∧
  sw (decide (IntKind.i64.wrap (l.getD (↑g : Int).toNat ((0 : Int), (0 : Int))).fst ≤ d)) ([decide (IntKind.i64.wrap (l.getD (↑g : Int).toNat ((0 : Int), (0 : Int))).fst ≤ d)] = [decide (IntKind.i64.wrap (l.getD (↑g : Int).toNat ((0 : Int), (0 : Int))).fst ≤ d)] ∧
  SV.c (Value.int IntKind.i64 (IntKind.i64.wrap (l.getD (↑g : Int).toNat ((0 : Int), (0 : Int))).snd)) = SV.c (Value.int IntKind.i64 (IntKind.i64.wrap (l.getD (↑g : Int).toNat ((0 : Int), (0 : Int))).snd))) True ∧
  sw (decide (IntKind.i64.wrap (l.getD (↑g : Int).toNat ((0 : Int), (0 : Int))).fst ≤ d)) ([decide (IntKind.i64.wrap (l.getD (↑g : Int).toNat ((0 : Int), (0 : Int))).fst ≤ d)] = [decide (IntKind.i64.wrap (l.getD (↑g : Int).toNat ((0 : Int), (0 : Int))).fst ≤ d)] ∧
  [decide (IntKind.i64.wrap (l.getD (↑g : Int).toNat ((0 : Int), (0 : Int))).fst ≤ d)] = [decide (IntKind.i64.wrap (l.getD (↑g : Int).toNat ((0 : Int), (0 : Int))).fst ≤ d)] ∧
  True ∧ SV.c (Value.bool (decide (d ≤ IntKind.i64.wrap (l.getD (↑g : Int).toNat ((0 : Int), (0 : Int))).snd))) = SV.c (Value.bool (decide (d ≤ IntKind.i64.wrap (l.getD (↑g : Int).toNat ((0 : Int), (0 : Int))).snd)))) True ∧
  [decide (IntKind.i64.wrap (l.getD (↑g : Int).toNat ((0 : Int), (0 : Int))).fst ≤ d)] = [decide (IntKind.i64.wrap (l.getD (↑g : Int).toNat ((0 : Int), (0 : Int))).fst ≤ d)] ∧
  sw (decide (IntKind.i64.wrap (l.getD (↑g : Int).toNat ((0 : Int), (0 : Int))).fst ≤ d) && decide (d ≤ IntKind.i64.wrap (l.getD (↑g : Int).toNat ((0 : Int), (0 : Int))).snd)) (True ∧
  decide ((0 : Int) ≤ (↑g : Int)) = hitG (gapsOf (D.recs (2 : Nat) l.length (gapCell l))) d ∧ (true && true) = true) (True ∧ ∃ (g' : Nat), (g' ≤ p.fst.length ∧
  hitG (List.take g' p.fst) p.snd = false) ∧ p.fst.length - g' < p.fst.length - g ∧ (IntKind.i64.wrap ((↑g : Int) + (1 : Int)) = (↑g' : Int) ∧ (true && true && true) = true) ∧
  (some (SV.c (Value.int IntKind.i64 (↑l.length : Int))) = some (SV.c (Value.int IntKind.i64 (↑l.length : Int))) ∧ some (SV.a (0 : Nat)) = some (SV.a (0 : Nat)) ∧
  some (SV.a (0 : Nat)) = some (SV.a (0 : Nat)) ∧ some (SV.f (89 : Nat) (0 : Nat) [SV.p (1 : Nat) (0 : Nat)]) = some (SV.f (89 : Nat) (0 : Nat) [SV.p (1 : Nat) (0 : Nat)]) ∧
  True) ∧ some (R.rblk (3 : Nat) [SV.c (Value.int IntKind.i64 d)]) = some (R.rblk (3 : Nat) [SV.c (Value.int IntKind.i64 d)]) ∧ some (R.ro (D.recs (2 : Nat) l.length (gapCell l))) = some (R.ro (D.recs (2 : Nat) l.length (gapCell l))) ∧
  True)) (True ∧ decide ((0 : Int) ≤ (-1 : Int)) = hitG (gapsOf (D.recs (2 : Nat) l.length (gapCell l))) d ∧ (true && true) = true) := by
  simp only [↓sw_iff, ↓Bool.and_eq_true, ↓Bool.and_eq_false_iff, ↓decide_eq_true_eq, ↓decide_eq_false_iff_not, true_and, and_true, implies_true, Int.toNat_natCast]
  intro l d hl
  refine ⟨(l, d), 0, ⟨Nat.zero_le _, rfl⟩, rfl, ?_⟩
  rintro g ⟨hg, hh⟩
  simp only at hg hh ⊢
  have hG := gapsOf_gaps l
  have wr : ∀ i, i < l.length → IntKind.i64.wrap (l.getD i (0, 0)).1 = (l.getD i (0, 0)).1 ∧ IntKind.i64.wrap (l.getD i (0, 0)).2 = (l.getD i (0, 0)).2 := fun i hi => by
    have := hl.2 _ (gd_mem hi (0, 0))
    exact ⟨i64_u16 this.1, i64_u16 this.2⟩
  refine ⟨fun hlt => ?_, fun hlt => ?_⟩
  · have hlt' : g < l.length := by omega
    obtain ⟨w1, w2⟩ := wr g hlt'
    rw [w1, w2, hG]
    refine ⟨by omega, fun h1 => ?_, fun h1 => ?_⟩
    · rw [hit_more hlt' h1.1 h1.2, decide_eq_true (by omega)]
    · have := hl.1
      refine ⟨g + 1, ⟨by omega, ?_⟩, by omega, wrap_i64_id (by omega) (by omega)⟩
      rw [hit_step hlt', hh]
      simp only [Bool.false_or, Bool.and_eq_false_iff, decide_eq_false_iff_not]
      exact h1
  · have : g = l.length := by omega
    subst this
    rw [List.take_length] at hh
    rw [hG, hh]
    rfl
set_option maxRecDepth 100000 in
theorem ok88 : FnIs Try.prog 88 hitC := by
  refine fnIs (C := (ctrsJ Try.prog c0 iN1 3)) (by kernel_rfl) (cokJ (by kernel_rfl) c0_ok iN1_ok) Try.func88 (code := code88) (by kernel_rfl) (by kernel_rfl) ?_
  rintro a ⟨l, d, rfl, h⟩
  exact ⟨anns [], kcast (vc88 l d h) (by kernel_rfl)⟩

noncomputable def code83 : Code := match Try.f83.body with | some c => c | none => .skip
set_option maxHeartbeats 4000000 in
theorem vc83 : ∀ (l : List ItR), l.length ≤ (256 : Nat) → ∃ (g0 : Nat), (g0 ≤ l.length ∧ markQ (List.take g0 l) = none) ∧ (0 : Int) = (↑g0 : Int) ∧ (true && true) = true ∧
  ∀ (g : Nat), g ≤ l.length ∧ markQ (List.take g l) = none → True ∧ sw (decide ((↑g : Int) < (↑l.length : Int))) (((0 : Int) ≤ (↑g : Int) ∧ (↑g : Int) < (↑l.length : Int)) ∧
  sw (l.getD (↑g : Int).toNat noIt).marked ((↑g : Int) = idxO (markQ (List.map (fun (i : Nat) => ItR.mk (pieAt (itCell l i)) (l.getD i noIt).path (l.getD i noIt).missed (l.getD i noIt).heard (l.getD i noIt).marked) (List.range l.length))) ∧
  (true && true) = true) (True ∧ ∃ (g' : Nat), (g' ≤ l.length ∧ markQ (List.take g' l) = none) ∧ l.length - g' < l.length - g ∧ (IntKind.i64.wrap ((↑g : Int) + (1 : Int)) = (↑g' : Int) ∧
  (true && true && true) = true) ∧ (some (SV.c (Value.int IntKind.i64 (↑l.length : Int))) = some (SV.c (Value.int IntKind.i64 (↑l.length : Int))) ∧ some (SV.a (0 : Nat)) = some (SV.a (0 : Nat)) ∧
  some (SV.a (0 : Nat)) = some (SV.a (0 : Nat)) ∧ some (SV.f (84 : Nat) (0 : Nat) []) = some (SV.f (84 : Nat) (0 : Nat) []) ∧ True) ∧ some (R.ro (D.recs (1 : Nat) l.length fun (i _x : Nat) => D.ptr (171 : Nat) (11 : Nat) (itCell l i))) = some (R.ro (D.recs (1 : Nat) l.length fun (i _x : Nat) => D.ptr (171 : Nat) (11 : Nat) (itCell l i))) ∧
  True)) ((-1 : Int) = idxO (markQ (List.map (fun (i : Nat) => ItR.mk (pieAt (itCell l i)) (l.getD i noIt).path (l.getD i noIt).missed (l.getD i noIt).heard (l.getD i noIt).marked) (List.range l.length))) ∧
  (true && true) = true) := by
  simp only [↓sw_iff, ↓Bool.and_eq_true, ↓decide_eq_true_eq, ↓decide_eq_false_iff_not, true_and, and_true, Int.toNat_natCast]
  intro l hl
  refine ⟨0, ⟨Nat.zero_le _, rfl⟩, rfl, ?_⟩
  rintro g ⟨hg, hh⟩
  have hI : (List.map (fun (i : Nat) => ItR.mk (pieAt (itCell l i)) (l.getD i noIt).path (l.getD i noIt).missed (l.getD i noIt).heard (l.getD i noIt).marked) (List.range l.length)) = l := itsD_its l
  rw [hI]
  refine ⟨fun hlt => ?_, fun hlt => ?_⟩
  · have hlt' : g < l.length := by omega
    refine ⟨by omega, fun h1 => ?_, fun h1 => ?_⟩
    · rw [mark_at hlt' hh h1]
      rfl
    · refine ⟨g + 1, ⟨by omega, ?_⟩, by omega, wrap_i64_id (by omega) (by omega)⟩
      rw [mark_step hlt', hh, if_neg (by rw [h1]; decide)]
      rfl
  · have : g = l.length := by omega
    subst this
    rw [List.take_length] at hh
    rw [hh]
    rfl
set_option maxRecDepth 100000 in
theorem ok83 : FnIs Try.prog 83 markC := by
  refine fnIs (C := (ctrsJ Try.prog c0 iN1 3)) (by kernel_rfl) (cokJ (by kernel_rfl) c0_ok iN1_ok) Try.func83 (code := code83) (by kernel_rfl) (by kernel_rfl) ?_
  rintro a ⟨l, rfl, h⟩
  exact ⟨anns [(2, markAnn 8 l)], kcast (vc83 l h) (by kernel_rfl)⟩

noncomputable def code91 : Code := match Try.f91.body with | some c => c | none => .skip
set_option maxHeartbeats 4000000 in
theorem vc91 : ∀ (l : List Int) (x : Int), l.length ≤ (256 : Nat) → ∃ (p : List Int × Int), ∃ (g0 : Nat), (g0 ≤ p.fst.length ∧ ¬p.snd ∈ List.take g0 p.fst) ∧ (0 : Int) = (↑g0 : Int) ∧
  (true && true) = true ∧ ∀ (g : Nat), g ≤ p.fst.length ∧ ¬p.snd ∈ List.take g p.fst → True ∧ sw (decide ((↑g : Int) < (↑l.length : Int))) (((0 : Int) ≤ (↑g : Int) ∧
  (↑g : Int) < (↑l.length : Int)) ∧ True ∧ sw (decide (x = l.getD (↑g : Int).toNat (0 : Int))) (True ∧ decide ((0 : Int) ≤ (↑g : Int)) = decide (x ∈ l) ∧
  (true && true) = true) (True ∧ ∃ (g' : Nat), (g' ≤ p.fst.length ∧ ¬p.snd ∈ List.take g' p.fst) ∧ p.fst.length - g' < p.fst.length - g ∧ (IntKind.i64.wrap ((↑g : Int) + (1 : Int)) = (↑g' : Int) ∧
  (true && true && true) = true) ∧ (some (SV.c (Value.int IntKind.i64 (↑l.length : Int))) = some (SV.c (Value.int IntKind.i64 (↑l.length : Int))) ∧ some (SV.a (0 : Nat)) = some (SV.a (0 : Nat)) ∧
  some (SV.a (0 : Nat)) = some (SV.a (0 : Nat)) ∧ some (SV.c (Value.int IntKind.i64 x)) = some (SV.c (Value.int IntKind.i64 x)) ∧ True) ∧ some (R.ro (D.ints IntKind.i64 l)) = some (R.ro (D.ints IntKind.i64 l)) ∧
  True)) (True ∧ decide ((0 : Int) ≤ (-1 : Int)) = decide (x ∈ l) ∧ (true && true) = true) := by
  simp only [↓sw_iff, ↓Bool.and_eq_true, ↓decide_eq_true_eq, ↓decide_eq_false_iff_not, true_and, and_true, Int.toNat_natCast]
  intro l x hl
  refine ⟨(l, x), 0, ⟨Nat.zero_le _, by simp⟩, rfl, ?_⟩
  rintro g ⟨hg, hh⟩
  simp only at hg hh ⊢
  refine ⟨fun hlt => ?_, fun hlt => ?_⟩
  · have hlt' : g < l.length := by omega
    refine ⟨by omega, fun h1 => ?_, fun h1 => ?_⟩
    · rw [decide_eq_true (has_at hlt' h1)]
      simp
    · exact ⟨g + 1, ⟨by omega, has_step hlt' hh h1⟩, by omega, wrap_i64_id (by omega) (by omega)⟩
  · have : g = l.length := by omega
    subst this
    rw [List.take_length] at hh
    rw [decide_eq_false hh]
    rfl
set_option maxRecDepth 100000 in
theorem ok91 : FnIs Try.prog 91 hasC := by
  refine fnIs (C := (ctrsJ Try.prog c0 iN1 3)) (by kernel_rfl) (cokJ (by kernel_rfl) c0_ok iN1_ok) Try.func91 (code := code91) (by kernel_rfl) (by kernel_rfl) ?_
  rintro a ⟨l, x, rfl, h⟩
  exact ⟨anns [], kcast (vc91 l x h) (by kernel_rfl)⟩

end Go.ZR
