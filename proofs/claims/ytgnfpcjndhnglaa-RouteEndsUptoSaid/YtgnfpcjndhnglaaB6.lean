/- Where a request goes, as a plain function; what both programs promise. -/
import Derived.Test.YtgnfpcjndhnglaaB5
namespace Go.YM
open Go.Y

/-- By the realm's ways. -/
def pick2F (n : NdR) (names : List ByteArray) (up : List Int) (l : List AvpR) (fr : Int) (hosted : Bool) : Int × Int :=
  if (findF l 283).2 = false then (0, 5005)
  else if (decide (bstr (findF l 283).1 = n.realm) && !hosted && n.serves) = true then (-1, 0)
  else if 0 ≤ idxP (fun r => decide (r.realm = bstr (findF l 283).1)) n.routes then
    if 0 ≤ idxP (mayF n names up l fr) (n.routes.getD (idxP (fun r => decide (r.realm = bstr (findF l 283).1)) n.routes).toNat noRt).via then
      ((n.routes.getD (idxP (fun r => decide (r.realm = bstr (findF l 283).1)) n.routes).toNat noRt).via.getD (idxP (mayF n names up l fr) (n.routes.getD (idxP (fun r => decide (r.realm = bstr (findF l 283).1)) n.routes).toNat noRt).via).toNat 0, 0)
    else (0, 3002)
  else if bstr (findF l 283).1 = n.realm then (0, 3002) else (0, 3003)
def hostP (n : NdR) (names : List ByteArray) (up : List Int) (l : List AvpR) (fr : Int) (h : List Int) (p : Int) : Bool := mayF n names up l fr p && decide (nameF names p = bstr h)
/-- Where a request goes; or why it goes nowhere. -/
def pickF (n : NdR) (names : List ByteArray) (up : List Int) (l : List AvpR) (fr : Int) : Int × Int :=
  if passF l n.host = true then (0, 3005)
  else if (findF l 293).2 = true ∧ bstr (findF l 293).1 = n.host then (-1, 0)
  else if (findF l 293).2 = true ∧ 0 ≤ idxP (hostP n names up l fr (findF l 293).1) n.peers then
    (n.peers.getD (idxP (hostP n names up l fr (findF l 293).1) n.peers).toNat 0, 0)
  else pick2F n names up l fr (findF l 293).2
/-- The same, of what a call is handed. -/
def pickA : List O → Int × Int
  | [.agg [.d h, .d r, .d s, .d p, .d t], .d ns, .d up, .agg [_, _, _, _, _, _, _, _, .d l], .d fr] =>
    pickF ⟨vs h, vs r, vb s, vl p, rtsOf t⟩ (strsOf ns) (vl up) (avpsOf l) (vi fr)
  | _ => (0, 0)
theorem pickA_eq (n : NdR) (names : List ByteArray) (up : List Int) (m : MsgR) (fr : Int) :
    pickA [.agg [.d (.v (.string n.host)), .d (.v (.string n.realm)), .d (.v (.bool n.serves)), .d (.ints .i64 n.peers), .d (.recs 2 n.routes.length (rtCell n.routes))], .d (.recs 1 names.length (strCell names)), .d (.ints .i64 up),
      .agg [.d (.v (.bool m.b0)), .d (.v (.bool m.b1)), .d (.v (.bool m.b2)), .d (.v (.bool m.b3)), .d (.v (.int .u32 m.n0)), .d (.v (.int .u32 m.n1)), .d (.v (.int .u32 m.n2)), .d (.v (.int .u32 m.n3)), .d (.recs 5 m.avps.length (avpCell m.avps))], .d (.v (.int .i64 fr))] = pickF n names up m.avps fr := by
  simp only [pickA, vs, vb, vl, vi, rtsOf_rts, strsOf_strs, avpsOf_avps]
def okNd (n : NdR) : Prop := small n.routes.length ∧ ∀ r, r ∈ n.routes → small r.via.length
end Go.YM
namespace Go.YR
open Go.Y Go.YM

def pickC : Ctr where
  own := []
  pre := fun a => ∃ n names up m fr, a = [ndO n, .d (strsD names), isO up, msgO m, iO .i64 fr] ∧ okMay n names up m ∧ okNd n
  res := fun a => [iO .i64 (pickA a).1, iO .i64 (pickA a).2]
  upd := fun _ => [.any, .any, .any, .any, .any]
  ro := false
  quiet := false
def scO (s : ScR) : List O := [sO s.n.host, sO s.n.realm, bO s.n.serves, isO s.n.peers, .d (rtsD s.n.routes), .d (strsD s.names), isO s.up, iO .i64 s.fr, .map (.strs s.ks) (.bools s.vs)]
/-- The names that were passed, noted one by one. -/
def notesAnn (n : NdR) (names : List ByteArray) (up : List Int) (l : List AvpR) (fr : Int) : LoopAnn where
  γ := Nat × List ByteArray × List Bool
  pre := fun g => g.1 ≤ l.length ∧ g.2.1.length = g.2.2.length ∧ ∀ s, hasF g.2.1 g.2.2 s = passF (l.take g.1) s
  μ := fun g => l.length - g.1
  items := fun g => [(33, .c (iO .i64 (g.1 : Int))), (12, .blk [.o (.ptr 64 (scO ⟨n, names, up, fr, g.2.1, g.2.2⟩))])]
def wayAnn (n : NdR) (names : List ByteArray) (up : List Int) (l : List AvpR) (fr : Int) : LoopAnn where
  γ := List Int × Nat × Nat
  pre := fun g => g.1 = (n.routes.getD g.2.1 noRt).via ∧ idxP (fun r => decide (r.realm = bstr (findF l 283).1)) n.routes = g.2.1 ∧ g.2.1 < n.routes.length ∧ g.2.2 ≤ g.1.length ∧ ∀ j, j < g.2.2 → mayF n names up l fr (g.1.getD j 0) = false
  μ := fun g => g.1.length - g.2.2
  items := fun g => [(20, .c (isO g.1)), (21, .c (iO .i64 (g.2.2 : Int)))]
def b6 : List (Nat × Ctr) := [(23, findC), (24, idxIntC), (28, idxRtC)]
def b7 : List (Nat × Ctr) := [(30, passC), (15, findC), (31, mayC)]
end Go.YR
