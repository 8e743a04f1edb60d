/- Part 18 of what the closing text rests on. -/
import Derived.Test.YtdamnoleoakehaaGreatDoorH17
import Derived.Test.YtdamnoleoakehaaGreatDoorRows
set_option maxRecDepth 100000
namespace Go.ZM
open Go.Z Go.ZR
structure Rt where
  realm : ByteArray
  via : List Int
structure Nd where
  host : ByteArray
  realm : ByteArray
  serves : Bool
  peers : List Int
  routes : List Rt
structure Cf where
  nodes : List Nd
  window : Int
  stored : Int
  wait : Int
  beat : Int
def noRt : Rt := ⟨⟨#[]⟩, []⟩
def noNd : Nd := ⟨⟨#[]⟩, ⟨#[]⟩, false, [], []⟩
def sB (s : ByteArray) : List Int := s.data.toList.map fun b => (b.toNat : Int)
def nodeAt (c : Cf) (i : Nat) : Nd := c.nodes.getD i noNd
def routeAt (d : Nd) (k : Nat) : Rt := d.routes.getD k noRt
def BaseOk (c : Cf) : Prop := 1 ≤ c.nodes.length ∧ c.nodes.length ≤ 8 ∧ 1 ≤ c.window ∧ c.window ≤ 1048576 ∧ 1 ≤ c.stored ∧ c.stored ≤ 256 ∧ 1 ≤ c.wait ∧ c.wait ≤ 1048576 ∧ 1 ≤ c.beat ∧ c.beat ≤ 1048576
def HostOk (c : Cf) (i k : Nat) : Prop := (nodeAt c k).host.data.toList ≠ (nodeAt c i).host.data.toList
def peerAt (c : Cf) (i k : Nat) : Int := (nodeAt c i).peers.getD k 0
def PeerOk (c : Cf) (i k : Nat) : Prop := 0 ≤ peerAt c i k ∧ peerAt c i k < c.nodes.length ∧ peerAt c i k ≠ i ∧ peerAt c i k ∉ (nodeAt c i).peers.take k ∧ (i : Int) ∈ (nodeAt c (peerAt c i k).toNat).peers
def RouteHead (d : Nd) (k : Nat) : Prop := nameB (sB (routeAt d k).realm) = true ∧ (routeAt d k).via.length ≤ 16
def ViaOk (d : Nd) (k j : Nat) : Prop := (routeAt d k).via.getD j 0 ∈ d.peers
def RouteOk (d : Nd) (k : Nat) : Prop := RouteHead d k ∧ ∀ j, j < (routeAt d k).via.length → ViaOk d k j
def NodeHead (d : Nd) : Prop := nameB (sB d.host) = true ∧ nameB (sB d.realm) = true ∧ d.routes.length ≤ 16
def NodeOk (c : Cf) (i : Nat) : Prop := NodeHead (nodeAt c i) ∧ (∀ k, k < i → HostOk c i k) ∧ (nodeAt c i).peers.length ≤ 8 ∧ (∀ k, k < (nodeAt c i).peers.length → PeerOk c i k) ∧ ∀ k, k < (nodeAt c i).routes.length → RouteOk (nodeAt c i) k
def SoundP (c : Cf) : Prop := BaseOk c ∧ ∀ i, i < c.nodes.length → NodeOk c i
open Classical in
noncomputable def soundB (c : Cf) : Bool := decide (SoundP c)
def inB (l : List Int) (p : Int) : Bool := l.any fun x => decide (x = p)
def smC (c : Cf) : Prop := c.nodes.length ≤ 1099511627776 ∧ ∀ d, d ∈ c.nodes → d.host.size ≤ 1099511627776 ∧ d.realm.size ≤ 1099511627776 ∧ d.peers.length ≤ 1099511627776 ∧ d.routes.length ≤ 1099511627776 ∧ ∀ r, r ∈ d.routes → r.realm.size ≤ 1099511627776 ∧ r.via.length ≤ 1099511627776
end Go.ZM
namespace Go.ZR
open Go.Z Go.ZM Go.Proofs
def rtCell (d : Nd) (k j : Nat) : D :=
  match j with
  | 0 => .v (.string (routeAt d k).realm)
  | _ => .ints .i64 (routeAt d k).via
def ndCell (c : Cf) (i j : Nat) : D :=
  match j with
  | 0 => .v (.string (nodeAt c i).host)
  | 1 => .v (.string (nodeAt c i).realm)
  | 2 => .v (.bool (nodeAt c i).serves)
  | 3 => .ints .i64 (nodeAt c i).peers
  | _ => .recs 2 (nodeAt c i).routes.length (rtCell (nodeAt c i))
def cfO (c : Cf) : O := .agg [.d (.recs 5 c.nodes.length (ndCell c)), iO .i64 c.window, iO .i64 c.stored, iO .i64 c.wait, iO .i64 c.beat]
def inC : Ctr := nC 2 true (fun a => ∃ (l : List Int) (p : Int), a = [.d (.ints .i64 l), iO .i64 p] ∧ l.length ≤ 1099511627776) fun a => [bO (inB (vl (dO (at_ a 0))) (vi (dO (at_ a 1))))]
def inAnn (l : List Int) (p : Int) : LoopAnn where
  γ := Nat
  pre := fun i => i ≤ l.length ∧ inB l p = inB (l.drop i) p
  μ := fun i => l.length - i
  items := fun i => [(5, .c (iO .i64 (i : Int)))]
def nameC : Ctr := nC 1 true (fun a => ∃ l : List Int, a = [bsO l] ∧ sm l.length) fun a => [bO (nameB (vl (dO (at_ a 0))))]
def nameAnn (l : List Int) : LoopAnn where
  γ := Nat
  pre := fun i => i ≤ l.length ∧ l.any oddF = (l.drop i).any oddF
  μ := fun i => l.length - i
  items := fun i => [(3, .c (iO .i64 (i : Int)))]
end Go.ZR
namespace Go.ZM
open Go.Z Go.ZR
def strOf : D → ByteArray
  | .v (.string s) => s
  | _ => ⟨#[]⟩
def rtsOf : D → List Rt
  | .recs _ n f => (List.range n).map fun k => ⟨strOf (f k 0), vl (f k 1)⟩
  | _ => []
def ndsOf : D → List Nd
  | .recs _ n f => (List.range n).map fun i => ⟨strOf (f i 0), strOf (f i 1), vb (f i 2), vl (f i 3), rtsOf (f i 4)⟩
  | _ => []
def cfOf (a : List O) : Cf :=
  match a with
  | [.agg [a0, a1, a2, a3, a4]] => ⟨ndsOf (dO a0), vi (dO a1), vi (dO a2), vi (dO a3), vi (dO a4)⟩
  | _ => ⟨[], 0, 0, 0, 0⟩
end Go.ZM
namespace Go.ZR
open Go.Z Go.ZM Go.Proofs
theorem range_at {α : Type} (l : List α) (d : α) : (List.range l.length).map (fun i => l.getD i d) = l := by
  apply List.ext_getElem?
  intro i
  rw [List.getElem?_map]
  rcases Nat.lt_or_ge i l.length with h | h
  · simp [h, List.getD]
  · rw [List.getElem?_eq_none (by simpa using h), List.getElem?_eq_none h]
    rfl
theorem rtsOf_cell (d : Nd) : rtsOf (.recs 2 d.routes.length (rtCell d)) = d.routes := range_at d.routes noRt
theorem ndsOf_cell (c : Cf) : ndsOf (.recs 5 c.nodes.length (ndCell c)) = c.nodes := by
  refine Eq.trans ?_ (range_at c.nodes noNd)
  show (List.range c.nodes.length).map _ = _
  refine List.map_congr_left fun i _ => ?_
  show (⟨(nodeAt c i).host, (nodeAt c i).realm, (nodeAt c i).serves, (nodeAt c i).peers, rtsOf (.recs 2 (nodeAt c i).routes.length (rtCell (nodeAt c i)))⟩ : Nd) = _
  rw [rtsOf_cell]
  rfl
theorem cfOf_cf (c : Cf) : cfOf [cfO c] = c := by
  show (⟨ndsOf (.recs 5 c.nodes.length (ndCell c)), c.window, c.stored, c.wait, c.beat⟩ : Cf) = c
  rw [ndsOf_cell]
noncomputable def refC : Ctr := nC 1 false (fun a => ∃ c, a = [cfO c] ∧ smC c) fun a => [bO (soundB (cfOf a))]
def outAnn (c : Cf) : LoopAnn where
  γ := Nat
  pre := fun i => i ≤ c.nodes.length ∧ ∀ k, k < i → NodeOk c k
  μ := fun i => c.nodes.length - i
  items := fun i => [(3, .c (iO .i64 (i : Int)))]
def hostAnn (c : Cf) (i : Nat) : LoopAnn where
  γ := Nat
  pre := fun k => k ≤ i ∧ ∀ k', k' < k → HostOk c i k'
  μ := fun k => i - k
  items := fun k => [(5, .c (iO .i64 (k : Int)))]
def peerAnn (c : Cf) (i : Nat) : LoopAnn where
  γ := Nat
  pre := fun k => k ≤ (nodeAt c i).peers.length ∧ ∀ k', k' < k → PeerOk c i k'
  μ := fun k => (nodeAt c i).peers.length - k
  items := fun k => [(6, .c (iO .i64 (k : Int)))]
def routeAnn (c : Cf) (i : Nat) : LoopAnn where
  γ := Nat
  pre := fun k => k ≤ (nodeAt c i).routes.length ∧ ∀ k', k' < k → RouteOk (nodeAt c i) k'
  μ := fun k => (nodeAt c i).routes.length - k
  items := fun k => [(8, .c (iO .i64 (k : Int)))]
def viaAnn (c : Cf) (i k : Nat) : LoopAnn where
  γ := Nat
  pre := fun j => j ≤ (routeAt (nodeAt c i) k).via.length ∧ ∀ j', j' < j → ViaOk (nodeAt c i) k j'
  μ := fun j => (routeAt (nodeAt c i) k).via.length - j
  items := fun j => [(10, .c (iO .i64 (j : Int)))]
def r1 : List (Nat × Ctr) := [(24, nameC), (39, inC)]
end Go.ZR

namespace Go.ZR
open Go.Proofs
open Go.Z Go.ZM Go.RowKit
set_option maxRecDepth 100000
theorem sw_mk {t : Bool} {A B : Prop} (h1 : t = true → A) (h2 : t = false → B) : sw t A B := sw_iff.2 ⟨h1, h2⟩
theorem tsw_mk {t : Bool} {A B : Prop} (h1 : t = true → A) (h2 : t = false → B) : True ∧ sw t A B := ⟨trivial, sw_iff.2 ⟨h1, h2⟩⟩
noncomputable def code39 : Code := match Tryz.f39.body with | some c => c | none => .skip
set_option maxHeartbeats 4000000 in
theorem vc39 : ∀ (l : List Int) (p : Int), l.length ≤ (1099511627776 : Nat) → ∃ (g0 : Nat), (g0 ≤ l.length ∧ inB l p = inB (List.drop g0 l) p) ∧ (0 : Int) = (↑g0 : Int) ∧
  true = true ∧ ∀ (g : Nat), g ≤ l.length ∧ inB l p = inB (List.drop g l) p → True ∧ sw (decide ((↑g : Int) < (↑l.length : Int))) (((0 : Int) ≤ (↑g : Int) ∧
  (↑g : Int) < (↑l.length : Int)) ∧ True ∧ sw (decide (l.getD (↑g : Int).toNat (0 : Int) = p)) (true = inB l p ∧ true = true) (True ∧ ∃ (g' : Nat), (g' ≤ l.length ∧
  inB l p = inB (List.drop g' l) p) ∧ l.length - g' < l.length - g ∧ (IntKind.i64.wrap ((↑g : Int) + (1 : Int)) = (↑g' : Int) ∧ true = true) ∧ (some (SV.a (0 : Nat)) = some (SV.a (0 : Nat)) ∧
  some (SV.c (Value.int IntKind.i64 p)) = some (SV.c (Value.int IntKind.i64 p)) ∧ True) ∧ some (R.ro (D.ints IntKind.i64 l)) = some (R.ro (D.ints IntKind.i64 l)) ∧
  True)) (false = inB l p ∧ true = true) := by
  intro l p h
  refine ⟨0, ⟨Nat.zero_le _, by simp⟩, rfl, rfl, ?_⟩
  rintro g ⟨hg, hi⟩
  refine ⟨trivial, sw_iff.2 ⟨fun hlt => ?_, fun hge => ?_⟩⟩
  · have hlt : g < l.length := by have := of_decide_eq_true hlt; omega
    have e : inB (l.drop g) p = (decide (l.getD g 0 = p) || inB (l.drop (g + 1)) p) := by
      unfold inB
      rw [List.drop_eq_getElem_cons hlt, List.any_cons]
      simp [List.getD, hlt]
    rw [e] at hi
    refine ⟨⟨by omega, by omega⟩, trivial, sw_iff.2 ⟨fun ho => ?_, fun ho => ?_⟩⟩
    · rw [Int.toNat_natCast] at ho
      rw [ho, Bool.true_or] at hi
      exact ⟨hi.symm, rfl⟩
    · rw [Int.toNat_natCast] at ho
      rw [ho, Bool.false_or] at hi
      exact ⟨trivial, g + 1, ⟨hlt, hi⟩, by omega, ⟨by rw [IntKind.wrap_i64]; omega, rfl⟩, ⟨rfl, rfl, trivial⟩, rfl, trivial⟩
  · have hge : g = l.length := by have := of_decide_eq_false hge; omega
    subst hge
    rw [List.drop_length] at hi
    exact ⟨hi.symm, rfl⟩
set_option maxRecDepth 100000 in
theorem ok39 : FnIs Tryz.prog 39 inC := by
  refine fnIs (C := (ctrs c0)) (by kernel_rfl) c0_ok Tryz.func39 (code := code39) (by kernel_rfl) (by kernel_rfl) ?_
  rintro a ⟨l, p, rfl, h⟩
  exact ⟨anns [(2, inAnn l p)], kcast (vc39 l p h) (by kernel_rfl)⟩

noncomputable def code24 : Code := match Tryz.f24.body with | some c => c | none => .skip
set_option maxHeartbeats 4000000 in
theorem vc24 : ∀ (l : List Int), sm l.length → ∃ (g0 : Nat), (g0 ≤ l.length ∧ l.any oddF = (List.drop g0 l).any oddF) ∧ (0 : Int) = (↑g0 : Int) ∧ true = true ∧ ∀ (g : Nat), g ≤ l.length ∧
  l.any oddF = (List.drop g l).any oddF → True ∧ sw (decide ((↑g : Int) < (↑l.length : Int))) (((0 : Int) ≤ (↑g : Int) ∧ (↑g : Int) < (↑l.length : Int)) ∧
  True ∧ sw (decide ((97 : Int) ≤ l.getD (↑g : Int).toNat (0 : Int))) (True ∧ sw (decide (l.getD (↑g : Int).toNat (0 : Int) ≤ (122 : Int))) (True ∧ ∃ (g' : Nat), (g' ≤ l.length ∧
  l.any oddF = (List.drop g' l).any oddF) ∧ l.length - g' < l.length - g ∧ (IntKind.i64.wrap ((↑g : Int) + (1 : Int)) = (↑g' : Int) ∧ true = true) ∧ (some (SV.a (0 : Nat)) = some (SV.a (0 : Nat)) ∧
  True) ∧ some (R.ro (D.ints IntKind.u8 l)) = some (R.ro (D.ints IntKind.u8 l)) ∧ True) (True ∧ sw (decide ((48 : Int) ≤ l.getD (↑g : Int).toNat (0 : Int))) (True ∧
  sw (decide (l.getD (↑g : Int).toNat (0 : Int) ≤ (57 : Int))) (True ∧ ∃ (g' : Nat), (g' ≤ l.length ∧ l.any oddF = (List.drop g' l).any oddF) ∧ l.length - g' < l.length - g ∧
  (IntKind.i64.wrap ((↑g : Int) + (1 : Int)) = (↑g' : Int) ∧ true = true) ∧ (some (SV.a (0 : Nat)) = some (SV.a (0 : Nat)) ∧ True) ∧ some (R.ro (D.ints IntKind.u8 l)) = some (R.ro (D.ints IntKind.u8 l)) ∧
  True) (True ∧ sw (decide (l.getD (↑g : Int).toNat (0 : Int) = (46 : Int))) (True ∧ ∃ (g' : Nat), (g' ≤ l.length ∧ l.any oddF = (List.drop g' l).any oddF) ∧
  l.length - g' < l.length - g ∧ (IntKind.i64.wrap ((↑g : Int) + (1 : Int)) = (↑g' : Int) ∧ true = true) ∧ (some (SV.a (0 : Nat)) = some (SV.a (0 : Nat)) ∧
  True) ∧ some (R.ro (D.ints IntKind.u8 l)) = some (R.ro (D.ints IntKind.u8 l)) ∧ True) (True ∧ sw (!decide (l.getD (↑g : Int).toNat (0 : Int) = (45 : Int))) (false = nameB l ∧
  true = true) (True ∧ ∃ (g' : Nat), (g' ≤ l.length ∧ l.any oddF = (List.drop g' l).any oddF) ∧ l.length - g' < l.length - g ∧ (IntKind.i64.wrap ((↑g : Int) + (1 : Int)) = (↑g' : Int) ∧
  true = true) ∧ (some (SV.a (0 : Nat)) = some (SV.a (0 : Nat)) ∧ True) ∧ some (R.ro (D.ints IntKind.u8 l)) = some (R.ro (D.ints IntKind.u8 l)) ∧ True)))) (True ∧
  sw (decide (l.getD (↑g : Int).toNat (0 : Int) = (46 : Int))) (True ∧ ∃ (g' : Nat), (g' ≤ l.length ∧ l.any oddF = (List.drop g' l).any oddF) ∧ l.length - g' < l.length - g ∧
  (IntKind.i64.wrap ((↑g : Int) + (1 : Int)) = (↑g' : Int) ∧ true = true) ∧ (some (SV.a (0 : Nat)) = some (SV.a (0 : Nat)) ∧ True) ∧ some (R.ro (D.ints IntKind.u8 l)) = some (R.ro (D.ints IntKind.u8 l)) ∧
  True) (True ∧ sw (!decide (l.getD (↑g : Int).toNat (0 : Int) = (45 : Int))) (false = nameB l ∧ true = true) (True ∧ ∃ (g' : Nat), (g' ≤ l.length ∧ l.any oddF = (List.drop g' l).any oddF) ∧
  l.length - g' < l.length - g ∧ (IntKind.i64.wrap ((↑g : Int) + (1 : Int)) = (↑g' : Int) ∧ true = true) ∧ (some (SV.a (0 : Nat)) = some (SV.a (0 : Nat)) ∧
  True) ∧ some (R.ro (D.ints IntKind.u8 l)) = some (R.ro (D.ints IntKind.u8 l)) ∧ True))))) (True ∧ sw (decide ((48 : Int) ≤ l.getD (↑g : Int).toNat (0 : Int))) (True ∧
  sw (decide (l.getD (↑g : Int).toNat (0 : Int) ≤ (57 : Int))) (True ∧ ∃ (g' : Nat), (g' ≤ l.length ∧ l.any oddF = (List.drop g' l).any oddF) ∧ l.length - g' < l.length - g ∧
  (IntKind.i64.wrap ((↑g : Int) + (1 : Int)) = (↑g' : Int) ∧ true = true) ∧ (some (SV.a (0 : Nat)) = some (SV.a (0 : Nat)) ∧ True) ∧ some (R.ro (D.ints IntKind.u8 l)) = some (R.ro (D.ints IntKind.u8 l)) ∧
  True) (True ∧ sw (decide (l.getD (↑g : Int).toNat (0 : Int) = (46 : Int))) (True ∧ ∃ (g' : Nat), (g' ≤ l.length ∧ l.any oddF = (List.drop g' l).any oddF) ∧
  l.length - g' < l.length - g ∧ (IntKind.i64.wrap ((↑g : Int) + (1 : Int)) = (↑g' : Int) ∧ true = true) ∧ (some (SV.a (0 : Nat)) = some (SV.a (0 : Nat)) ∧
  True) ∧ some (R.ro (D.ints IntKind.u8 l)) = some (R.ro (D.ints IntKind.u8 l)) ∧ True) (True ∧ sw (!decide (l.getD (↑g : Int).toNat (0 : Int) = (45 : Int))) (false = nameB l ∧
  true = true) (True ∧ ∃ (g' : Nat), (g' ≤ l.length ∧ l.any oddF = (List.drop g' l).any oddF) ∧ l.length - g' < l.length - g ∧ (IntKind.i64.wrap ((↑g : Int) + (1 : Int)) = (↑g' : Int) ∧
  true = true) ∧ (some (SV.a (0 : Nat)) = some (SV.a (0 : Nat)) ∧ True) ∧ some (R.ro (D.ints IntKind.u8 l)) = some (R.ro (D.ints IntKind.u8 l)) ∧ True)))) (True ∧
  sw (decide (l.getD (↑g : Int).toNat (0 : Int) = (46 : Int))) (True ∧ ∃ (g' : Nat), (g' ≤ l.length ∧ l.any oddF = (List.drop g' l).any oddF) ∧ l.length - g' < l.length - g ∧
  (IntKind.i64.wrap ((↑g : Int) + (1 : Int)) = (↑g' : Int) ∧ true = true) ∧ (some (SV.a (0 : Nat)) = some (SV.a (0 : Nat)) ∧ True) ∧ some (R.ro (D.ints IntKind.u8 l)) = some (R.ro (D.ints IntKind.u8 l)) ∧
  True) (True ∧ sw (!decide (l.getD (↑g : Int).toNat (0 : Int) = (45 : Int))) (false = nameB l ∧ true = true) (True ∧ ∃ (g' : Nat), (g' ≤ l.length ∧ l.any oddF = (List.drop g' l).any oddF) ∧
  l.length - g' < l.length - g ∧ (IntKind.i64.wrap ((↑g : Int) + (1 : Int)) = (↑g' : Int) ∧ true = true) ∧ (some (SV.a (0 : Nat)) = some (SV.a (0 : Nat)) ∧
  True) ∧ some (R.ro (D.ints IntKind.u8 l)) = some (R.ro (D.ints IntKind.u8 l)) ∧ True))))) (True ∧ sw (decide ((1 : Int) ≤ (↑l.length : Int))) (True ∧ decide ((↑l.length : Int) ≤ (32 : Int)) = nameB l ∧
  true = true) (false = nameB l ∧ true = true)) := by
  intro l h
  have hl : l.length ≤ 1099511627776 := h
  refine ⟨0, ⟨Nat.zero_le _, by simp⟩, rfl, rfl, ?_⟩
  rintro g ⟨hg, hi⟩
  refine ⟨trivial, sw_iff.2 ⟨fun hlt => ?_, fun hge => ?_⟩⟩
  · have hlt : g < l.length := by have := of_decide_eq_true hlt; omega
    have e : (l.drop g).any oddF = (oddF (l.getD g 0) || (l.drop (g + 1)).any oddF) := by
      rw [List.drop_eq_getElem_cons hlt, List.any_cons]
      simp [List.getD, hlt]
    rw [e] at hi
    have next (ho : oddF (l.getD g 0) = false) : True ∧ ∃ (g' : Nat), (g' ≤ l.length ∧ l.any oddF = (List.drop g' l).any oddF) ∧ l.length - g' < l.length - g ∧ (IntKind.i64.wrap ((↑g : Int) + (1 : Int)) = (↑g' : Int) ∧ true = true) ∧ (some (SV.a (0 : Nat)) = some (SV.a (0 : Nat)) ∧ True) ∧ some (R.ro (D.ints IntKind.u8 l)) = some (R.ro (D.ints IntKind.u8 l)) ∧ True := by
      rw [ho, Bool.false_or] at hi
      exact ⟨trivial, g + 1, ⟨hlt, hi⟩, by omega, ⟨by rw [IntKind.wrap_i64]; omega, rfl⟩, ⟨rfl, trivial⟩, rfl, trivial⟩
    have bad (ho : oddF (l.getD g 0) = true) : false = nameB l ∧ true = true := by
      rw [ho, Bool.true_or] at hi
      refine ⟨?_, rfl⟩
      unfold nameB
      rw [hi]
      simp
    rw [Int.toNat_natCast]
    refine ⟨⟨by omega, by omega⟩, ?_⟩
    generalize l.getD g 0 = x at next bad ⊢
    repeat' (first | (apply tsw_mk <;> intro _) | (apply sw_mk <;> intro _))
    all_goals first
      | exact next (by simp_all [oddF])
      | exact bad (by simp_all [oddF])
      | exact next (by unfold oddF; simp_all; omega)
      | exact bad (by unfold oddF; simp_all; omega)
  · have hge : g = l.length := by have := of_decide_eq_false hge; omega
    subst hge
    rw [List.drop_length] at hi
    have hi : l.any oddF = false := hi
    have fin (h1 : 1 ≤ l.length) (h2 : l.length ≤ 32) : nameB l = true := by
      unfold nameB
      rw [hi, decide_eq_true h1, decide_eq_true h2]
      rfl
    have bad (h1 : ¬ (1 ≤ l.length ∧ l.length ≤ 32)) : nameB l = false := by
      unfold nameB
      by_cases a : 1 ≤ l.length
      · rw [decide_eq_false (show ¬ l.length ≤ 32 from fun b => h1 ⟨a, b⟩)]
        simp
      · rw [decide_eq_false a]
        simp
    refine tsw_mk (fun h1 => ⟨trivial, ?_, rfl⟩) (fun h1 => ⟨(bad (by have := of_decide_eq_false h1; omega)).symm, rfl⟩)
    have a := of_decide_eq_true h1
    by_cases b : (l.length : Int) ≤ 32
    · rw [decide_eq_true b, fin (by omega) (by omega)]
    · rw [decide_eq_false b, bad (by omega)]
set_option maxRecDepth 100000 in
theorem ok24 : FnIs Tryz.prog 24 nameC := by
  refine fnIs (C := (ctrs c0)) (by kernel_rfl) c0_ok Tryz.func24 (code := code24) (by kernel_rfl) (by kernel_rfl) ?_
  rintro a ⟨l, rfl, h⟩
  exact ⟨anns [(2, nameAnn l)] [5, 7], kcast (vc24 l h) (by kernel_rfl)⟩

theorem r1_ok : COk Tryz.prog (ctrs r1) := cok_cons ok24 (cok_cons ok39 cok_nil)

end Go.ZR
