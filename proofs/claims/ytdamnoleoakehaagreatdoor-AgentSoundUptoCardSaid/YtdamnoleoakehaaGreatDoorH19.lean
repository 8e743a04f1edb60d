/- Part 19 of what the closing text rests on. -/
import Derived.Test.YtdamnoleoakehaaGreatDoorH18
import Derived.Test.YtdamnoleoakehaaGreatDoorRows
namespace Go.ZR
open Go.Proofs
open Go.Z Go.ZM Go.RowKit
set_option maxRecDepth 100000
theorem inB_mem {l : List Int} {p : Int} : inB l p = true ↔ p ∈ l := by
  unfold inB
  rw [List.any_eq_true]
  constructor
  · rintro ⟨x, hx, e⟩
    have := of_decide_eq_true e
    subst this
    exact hx
  · intro h
    exact ⟨p, h, decide_eq_true rfl⟩
theorem sB_len (s : ByteArray) : (List.map (fun (b : UInt8) => (↑b.toNat : Int)) s.data.toList).length = s.size := by
  rw [List.length_map, Array.length_toList]
  rfl
theorem getD_mem {α : Type} {l : List α} {i : Nat} {d : α} (h : i < l.length) : l.getD i d ∈ l := by
  have : l.getD i d = l[i] := by simp [List.getD, h]
  rw [this]
  exact List.getElem_mem h
theorem not_ff {b : Bool} (h : (!b) = false) : b = true := by cases b <;> simp_all
noncomputable def code13 : Code := match Tryz.f13.body with | some c => c | none => .skip
set_option maxHeartbeats 4000000 in
theorem vc13 : ∀ (c : Cf), smC c → True ∧ sw (decide ((↑c.nodes.length : Int) < (1 : Int))) (false = soundB (cfOf [O.agg [O.d (D.recs (5 : Nat) c.nodes.length fun (i j : Nat) => match j with | (0 : Nat) => D.v (Value.string (nodeAt c i).host) | (1 : Nat) => D.v (Value.string (nodeAt c i).realm) | (2 : Nat) => D.v (Value.bool (nodeAt c i).serves) | (3 : Nat) => D.ints IntKind.i64 (nodeAt c i).peers | _x => D.recs (2 : Nat) (nodeAt c i).routes.length fun (k j : Nat) => match j with | (0 : Nat) => D.v (Value.string (routeAt (nodeAt c i) k).realm) | _x => D.ints IntKind.i64 (routeAt (nodeAt c i) k).via), O.d (D.v (Value.int IntKind.i64 c.window)), O.d (D.v (Value.int IntKind.i64 c.stored)), O.d (D.v (Value.int IntKind.i64 c.wait)), O.d (D.v (Value.int IntKind.i64 c.beat))]]) ∧
  true = true) (True ∧ sw (decide ((8 : Int) < (↑c.nodes.length : Int))) (false = soundB (cfOf [O.agg [O.d (D.recs (5 : Nat) c.nodes.length fun (i j : Nat) => match j with | (0 : Nat) => D.v (Value.string (nodeAt c i).host) | (1 : Nat) => D.v (Value.string (nodeAt c i).realm) | (2 : Nat) => D.v (Value.bool (nodeAt c i).serves) | (3 : Nat) => D.ints IntKind.i64 (nodeAt c i).peers | _x => D.recs (2 : Nat) (nodeAt c i).routes.length fun (k j : Nat) => match j with | (0 : Nat) => D.v (Value.string (routeAt (nodeAt c i) k).realm) | _x => D.ints IntKind.i64 (routeAt (nodeAt c i) k).via), O.d (D.v (Value.int IntKind.i64 c.window)), O.d (D.v (Value.int IntKind.i64 c.stored)), O.d (D.v (Value.int IntKind.i64 c.wait)), O.d (D.v (Value.int IntKind.i64 c.beat))]]) ∧
  true = true) (True ∧ sw (decide (c.window < (1 : Int))) (false = soundB (cfOf [O.agg [O.d (D.recs (5 : Nat) c.nodes.length fun (i j : Nat) => match j with | (0 : Nat) => D.v (Value.string (nodeAt c i).host) | (1 : Nat) => D.v (Value.string (nodeAt c i).realm) | (2 : Nat) => D.v (Value.bool (nodeAt c i).serves) | (3 : Nat) => D.ints IntKind.i64 (nodeAt c i).peers | _x => D.recs (2 : Nat) (nodeAt c i).routes.length fun (k j : Nat) => match j with | (0 : Nat) => D.v (Value.string (routeAt (nodeAt c i) k).realm) | _x => D.ints IntKind.i64 (routeAt (nodeAt c i) k).via), O.d (D.v (Value.int IntKind.i64 c.window)), O.d (D.v (Value.int IntKind.i64 c.stored)), O.d (D.v (Value.int IntKind.i64 c.wait)), O.d (D.v (Value.int IntKind.i64 c.beat))]]) ∧
  true = true) (True ∧ sw (decide ((1048576 : Int) < c.window)) (false = soundB (cfOf [O.agg [O.d (D.recs (5 : Nat) c.nodes.length fun (i j : Nat) => match j with | (0 : Nat) => D.v (Value.string (nodeAt c i).host) | (1 : Nat) => D.v (Value.string (nodeAt c i).realm) | (2 : Nat) => D.v (Value.bool (nodeAt c i).serves) | (3 : Nat) => D.ints IntKind.i64 (nodeAt c i).peers | _x => D.recs (2 : Nat) (nodeAt c i).routes.length fun (k j : Nat) => match j with | (0 : Nat) => D.v (Value.string (routeAt (nodeAt c i) k).realm) | _x => D.ints IntKind.i64 (routeAt (nodeAt c i) k).via), O.d (D.v (Value.int IntKind.i64 c.window)), O.d (D.v (Value.int IntKind.i64 c.stored)), O.d (D.v (Value.int IntKind.i64 c.wait)), O.d (D.v (Value.int IntKind.i64 c.beat))]]) ∧
  true = true) (True ∧ sw (decide (c.stored < (1 : Int))) (false = soundB (cfOf [O.agg [O.d (D.recs (5 : Nat) c.nodes.length fun (i j : Nat) => match j with | (0 : Nat) => D.v (Value.string (nodeAt c i).host) | (1 : Nat) => D.v (Value.string (nodeAt c i).realm) | (2 : Nat) => D.v (Value.bool (nodeAt c i).serves) | (3 : Nat) => D.ints IntKind.i64 (nodeAt c i).peers | _x => D.recs (2 : Nat) (nodeAt c i).routes.length fun (k j : Nat) => match j with | (0 : Nat) => D.v (Value.string (routeAt (nodeAt c i) k).realm) | _x => D.ints IntKind.i64 (routeAt (nodeAt c i) k).via), O.d (D.v (Value.int IntKind.i64 c.window)), O.d (D.v (Value.int IntKind.i64 c.stored)), O.d (D.v (Value.int IntKind.i64 c.wait)), O.d (D.v (Value.int IntKind.i64 c.beat))]]) ∧
  true = true) (True ∧ sw (decide ((256 : Int) < c.stored)) (false = soundB (cfOf [O.agg [O.d (D.recs (5 : Nat) c.nodes.length fun (i j : Nat) => match j with | (0 : Nat) => D.v (Value.string (nodeAt c i).host) | (1 : Nat) => D.v (Value.string (nodeAt c i).realm) | (2 : Nat) => D.v (Value.bool (nodeAt c i).serves) | (3 : Nat) => D.ints IntKind.i64 (nodeAt c i).peers | _x => D.recs (2 : Nat) (nodeAt c i).routes.length fun (k j : Nat) => match j with | (0 : Nat) => D.v (Value.string (routeAt (nodeAt c i) k).realm) | _x => D.ints IntKind.i64 (routeAt (nodeAt c i) k).via), O.d (D.v (Value.int IntKind.i64 c.window)), O.d (D.v (Value.int IntKind.i64 c.stored)), O.d (D.v (Value.int IntKind.i64 c.wait)), O.d (D.v (Value.int IntKind.i64 c.beat))]]) ∧
  true = true) (True ∧ sw (decide (c.wait < (1 : Int))) (false = soundB (cfOf [O.agg [O.d (D.recs (5 : Nat) c.nodes.length fun (i j : Nat) => match j with | (0 : Nat) => D.v (Value.string (nodeAt c i).host) | (1 : Nat) => D.v (Value.string (nodeAt c i).realm) | (2 : Nat) => D.v (Value.bool (nodeAt c i).serves) | (3 : Nat) => D.ints IntKind.i64 (nodeAt c i).peers | _x => D.recs (2 : Nat) (nodeAt c i).routes.length fun (k j : Nat) => match j with | (0 : Nat) => D.v (Value.string (routeAt (nodeAt c i) k).realm) | _x => D.ints IntKind.i64 (routeAt (nodeAt c i) k).via), O.d (D.v (Value.int IntKind.i64 c.window)), O.d (D.v (Value.int IntKind.i64 c.stored)), O.d (D.v (Value.int IntKind.i64 c.wait)), O.d (D.v (Value.int IntKind.i64 c.beat))]]) ∧
  true = true) (True ∧ sw (decide ((1048576 : Int) < c.wait)) (false = soundB (cfOf [O.agg [O.d (D.recs (5 : Nat) c.nodes.length fun (i j : Nat) => match j with | (0 : Nat) => D.v (Value.string (nodeAt c i).host) | (1 : Nat) => D.v (Value.string (nodeAt c i).realm) | (2 : Nat) => D.v (Value.bool (nodeAt c i).serves) | (3 : Nat) => D.ints IntKind.i64 (nodeAt c i).peers | _x => D.recs (2 : Nat) (nodeAt c i).routes.length fun (k j : Nat) => match j with | (0 : Nat) => D.v (Value.string (routeAt (nodeAt c i) k).realm) | _x => D.ints IntKind.i64 (routeAt (nodeAt c i) k).via), O.d (D.v (Value.int IntKind.i64 c.window)), O.d (D.v (Value.int IntKind.i64 c.stored)), O.d (D.v (Value.int IntKind.i64 c.wait)), O.d (D.v (Value.int IntKind.i64 c.beat))]]) ∧
  true = true) (True ∧ sw (decide (c.beat < (1 : Int))) (false = soundB (cfOf [O.agg [O.d (D.recs (5 : Nat) c.nodes.length fun (i j : Nat) => match j with | (0 : Nat) => D.v (Value.string (nodeAt c i).host) | (1 : Nat) => D.v (Value.string (nodeAt c i).realm) | (2 : Nat) => D.v (Value.bool (nodeAt c i).serves) | (3 : Nat) => D.ints IntKind.i64 (nodeAt c i).peers | _x => D.recs (2 : Nat) (nodeAt c i).routes.length fun (k j : Nat) => match j with | (0 : Nat) => D.v (Value.string (routeAt (nodeAt c i) k).realm) | _x => D.ints IntKind.i64 (routeAt (nodeAt c i) k).via), O.d (D.v (Value.int IntKind.i64 c.window)), O.d (D.v (Value.int IntKind.i64 c.stored)), O.d (D.v (Value.int IntKind.i64 c.wait)), O.d (D.v (Value.int IntKind.i64 c.beat))]]) ∧
  true = true) (True ∧ sw (decide ((1048576 : Int) < c.beat)) (false = soundB (cfOf [O.agg [O.d (D.recs (5 : Nat) c.nodes.length fun (i j : Nat) => match j with | (0 : Nat) => D.v (Value.string (nodeAt c i).host) | (1 : Nat) => D.v (Value.string (nodeAt c i).realm) | (2 : Nat) => D.v (Value.bool (nodeAt c i).serves) | (3 : Nat) => D.ints IntKind.i64 (nodeAt c i).peers | _x => D.recs (2 : Nat) (nodeAt c i).routes.length fun (k j : Nat) => match j with | (0 : Nat) => D.v (Value.string (routeAt (nodeAt c i) k).realm) | _x => D.ints IntKind.i64 (routeAt (nodeAt c i) k).via), O.d (D.v (Value.int IntKind.i64 c.window)), O.d (D.v (Value.int IntKind.i64 c.stored)), O.d (D.v (Value.int IntKind.i64 c.wait)), O.d (D.v (Value.int IntKind.i64 c.beat))]]) ∧
  true = true) (∃ (g0 : Nat), (g0 ≤ c.nodes.length ∧ ∀ (k : Nat), k < g0 → NodeOk c k) ∧ (0 : Int) = (↑g0 : Int) ∧ true = true ∧ ∀ (g : Nat), (g ≤ c.nodes.length ∧
  ∀ (k : Nat), k < g → NodeOk c k) → True ∧ sw (decide ((↑g : Int) < (↑c.nodes.length : Int))) (((0 : Int) ≤ (↑g : Int) ∧ (↑g : Int) < (↑c.nodes.length : Int)) ∧
  (∃ (l : List Int), [O.d (D.ints IntKind.u8 (List.map (fun (b : UInt8) => (↑b.toNat : Int)) (nodeAt c (↑g : Int).toNat).host.data.toList))] = [O.d (D.ints IntKind.u8 l)] ∧
  sm l.length) ∧ sw (!nameB (List.map (fun (b : UInt8) => (↑b.toNat : Int)) (nodeAt c (↑g : Int).toNat).host.data.toList)) (false = soundB (cfOf [O.agg [O.d (D.recs (5 : Nat) c.nodes.length fun (i j : Nat) => match j with | (0 : Nat) => D.v (Value.string (nodeAt c i).host) | (1 : Nat) => D.v (Value.string (nodeAt c i).realm) | (2 : Nat) => D.v (Value.bool (nodeAt c i).serves) | (3 : Nat) => D.ints IntKind.i64 (nodeAt c i).peers | _x => D.recs (2 : Nat) (nodeAt c i).routes.length fun (k j : Nat) => match j with | (0 : Nat) => D.v (Value.string (routeAt (nodeAt c i) k).realm) | _x => D.ints IntKind.i64 (routeAt (nodeAt c i) k).via), O.d (D.v (Value.int IntKind.i64 c.window)), O.d (D.v (Value.int IntKind.i64 c.stored)), O.d (D.v (Value.int IntKind.i64 c.wait)), O.d (D.v (Value.int IntKind.i64 c.beat))]]) ∧
  true = true) ((∃ (l : List Int), [O.d (D.ints IntKind.u8 (List.map (fun (b : UInt8) => (↑b.toNat : Int)) (nodeAt c (↑g : Int).toNat).realm.data.toList))] = [O.d (D.ints IntKind.u8 l)] ∧
  sm l.length) ∧ sw (!nameB (List.map (fun (b : UInt8) => (↑b.toNat : Int)) (nodeAt c (↑g : Int).toNat).realm.data.toList)) (false = soundB (cfOf [O.agg [O.d (D.recs (5 : Nat) c.nodes.length fun (i j : Nat) => match j with | (0 : Nat) => D.v (Value.string (nodeAt c i).host) | (1 : Nat) => D.v (Value.string (nodeAt c i).realm) | (2 : Nat) => D.v (Value.bool (nodeAt c i).serves) | (3 : Nat) => D.ints IntKind.i64 (nodeAt c i).peers | _x => D.recs (2 : Nat) (nodeAt c i).routes.length fun (k j : Nat) => match j with | (0 : Nat) => D.v (Value.string (routeAt (nodeAt c i) k).realm) | _x => D.ints IntKind.i64 (routeAt (nodeAt c i) k).via), O.d (D.v (Value.int IntKind.i64 c.window)), O.d (D.v (Value.int IntKind.i64 c.stored)), O.d (D.v (Value.int IntKind.i64 c.wait)), O.d (D.v (Value.int IntKind.i64 c.beat))]]) ∧
  true = true) (True ∧ sw (decide ((16 : Int) < (↑(nodeAt c (↑g : Int).toNat).routes.length : Int))) (false = soundB (cfOf [O.agg [O.d (D.recs (5 : Nat) c.nodes.length fun (i j : Nat) => match j with | (0 : Nat) => D.v (Value.string (nodeAt c i).host) | (1 : Nat) => D.v (Value.string (nodeAt c i).realm) | (2 : Nat) => D.v (Value.bool (nodeAt c i).serves) | (3 : Nat) => D.ints IntKind.i64 (nodeAt c i).peers | _x => D.recs (2 : Nat) (nodeAt c i).routes.length fun (k j : Nat) => match j with | (0 : Nat) => D.v (Value.string (routeAt (nodeAt c i) k).realm) | _x => D.ints IntKind.i64 (routeAt (nodeAt c i) k).via), O.d (D.v (Value.int IntKind.i64 c.window)), O.d (D.v (Value.int IntKind.i64 c.stored)), O.d (D.v (Value.int IntKind.i64 c.wait)), O.d (D.v (Value.int IntKind.i64 c.beat))]]) ∧
  true = true) (∃ (p : Nat), ∃ (g0_1 : Nat), (g0_1 ≤ p ∧ ∀ (k' : Nat), k' < g0_1 → HostOk c p k') ∧ (0 : Int) = (↑g0_1 : Int) ∧ true = true ∧ ∀ (g_1 : Nat), (g_1 ≤ p ∧
  ∀ (k' : Nat), k' < g_1 → HostOk c p k') → True ∧ sw (decide ((↑g_1 : Int) < (↑g : Int))) (((0 : Int) ≤ (↑g_1 : Int) ∧ (↑g_1 : Int) < (↑c.nodes.length : Int)) ∧
  True ∧ sw (decide ((nodeAt c (↑g_1 : Int).toNat).host.data.toList = (nodeAt c (↑g : Int).toNat).host.data.toList)) (false = soundB (cfOf [O.agg [O.d (D.recs (5 : Nat) c.nodes.length fun (i j : Nat) => match j with | (0 : Nat) => D.v (Value.string (nodeAt c i).host) | (1 : Nat) => D.v (Value.string (nodeAt c i).realm) | (2 : Nat) => D.v (Value.bool (nodeAt c i).serves) | (3 : Nat) => D.ints IntKind.i64 (nodeAt c i).peers | _x => D.recs (2 : Nat) (nodeAt c i).routes.length fun (k j : Nat) => match j with | (0 : Nat) => D.v (Value.string (routeAt (nodeAt c i) k).realm) | _x => D.ints IntKind.i64 (routeAt (nodeAt c i) k).via), O.d (D.v (Value.int IntKind.i64 c.window)), O.d (D.v (Value.int IntKind.i64 c.stored)), O.d (D.v (Value.int IntKind.i64 c.wait)), O.d (D.v (Value.int IntKind.i64 c.beat))]]) ∧
  true = true) (True ∧ ∃ (g' : Nat), (g' ≤ p ∧ ∀ (k' : Nat), k' < g' → HostOk c p k') ∧ p - g' < p - g_1 ∧ (IntKind.i64.wrap ((↑g_1 : Int) + (1 : Int)) = (↑g' : Int) ∧
  true = true) ∧ (some (SV.p (4 : Nat) (0 : Nat)) = some (SV.p (4 : Nat) (0 : Nat)) ∧ some (SV.c (Value.int IntKind.i64 (↑g : Int))) = some (SV.c (Value.int IntKind.i64 (↑g : Int))) ∧
  some (SV.p (1 : Nat) (0 : Nat)) = some (SV.p (1 : Nat) (0 : Nat)) ∧ True) ∧ some (R.ro (D.ints IntKind.u8 (List.map (fun (b : UInt8) => (↑b.toNat : Int)) (nodeAt c (↑g : Int).toNat).realm.data.toList))) = some (R.ro (D.ints IntKind.u8 (List.map (fun (b : UInt8) => (↑b.toNat : Int)) (nodeAt c (↑g : Int).toNat).realm.data.toList))) ∧
  some (R.ro (D.ints IntKind.u8 (List.map (fun (b : UInt8) => (↑b.toNat : Int)) (nodeAt c (↑g : Int).toNat).host.data.toList))) = some (R.ro (D.ints IntKind.u8 (List.map (fun (b : UInt8) => (↑b.toNat : Int)) (nodeAt c (↑g : Int).toNat).host.data.toList))) ∧
  some (R.blk (88 : Nat) [SV.c (Value.string (nodeAt c (↑g : Int).toNat).host), SV.c (Value.string (nodeAt c (↑g : Int).toNat).realm), SV.c (Value.bool (nodeAt c (↑g : Int).toNat).serves), SV.a (2 : Nat), SV.a (3 : Nat)]) = some (R.blk (88 : Nat) [SV.c (Value.string (nodeAt c (↑g : Int).toNat).host), SV.c (Value.string (nodeAt c (↑g : Int).toNat).realm), SV.c (Value.bool (nodeAt c (↑g : Int).toNat).serves), SV.a (2 : Nat), SV.a (3 : Nat)]) ∧
  some (R.ro (D.recs (2 : Nat) (nodeAt c (↑g : Int).toNat).routes.length fun (k j : Nat) => match j with | (0 : Nat) => D.v (Value.string (routeAt (nodeAt c (↑g : Int).toNat) k).realm) | _x => D.ints IntKind.i64 (routeAt (nodeAt c (↑g : Int).toNat) k).via)) = some (R.ro (D.recs (2 : Nat) (nodeAt c (↑g : Int).toNat).routes.length fun (k j : Nat) => match j with | (0 : Nat) => D.v (Value.string (routeAt (nodeAt c (↑g : Int).toNat) k).realm) | _x => D.ints IntKind.i64 (routeAt (nodeAt c (↑g : Int).toNat) k).via)) ∧
  some (R.ro (D.ints IntKind.i64 (nodeAt c (↑g : Int).toNat).peers)) = some (R.ro (D.ints IntKind.i64 (nodeAt c (↑g : Int).toNat).peers)) ∧ some (R.blk (24 : Nat) [SV.a (0 : Nat), SV.c (Value.int IntKind.i64 c.window), SV.c (Value.int IntKind.i64 c.stored), SV.c (Value.int IntKind.i64 c.wait), SV.c (Value.int IntKind.i64 c.beat)]) = some (R.blk (24 : Nat) [SV.a (0 : Nat), SV.c (Value.int IntKind.i64 c.window), SV.c (Value.int IntKind.i64 c.stored), SV.c (Value.int IntKind.i64 c.wait), SV.c (Value.int IntKind.i64 c.beat)]) ∧
  some (R.ro (D.recs (5 : Nat) c.nodes.length fun (i j : Nat) => match j with | (0 : Nat) => D.v (Value.string (nodeAt c i).host) | (1 : Nat) => D.v (Value.string (nodeAt c i).realm) | (2 : Nat) => D.v (Value.bool (nodeAt c i).serves) | (3 : Nat) => D.ints IntKind.i64 (nodeAt c i).peers | _x => D.recs (2 : Nat) (nodeAt c i).routes.length fun (k j : Nat) => match j with | (0 : Nat) => D.v (Value.string (routeAt (nodeAt c i) k).realm) | _x => D.ints IntKind.i64 (routeAt (nodeAt c i) k).via)) = some (R.ro (D.recs (5 : Nat) c.nodes.length fun (i j : Nat) => match j with | (0 : Nat) => D.v (Value.string (nodeAt c i).host) | (1 : Nat) => D.v (Value.string (nodeAt c i).realm) | (2 : Nat) => D.v (Value.bool (nodeAt c i).serves) | (3 : Nat) => D.ints IntKind.i64 (nodeAt c i).peers | _x => D.recs (2 : Nat) (nodeAt c i).routes.length fun (k j : Nat) => match j with | (0 : Nat) => D.v (Value.string (routeAt (nodeAt c i) k).realm) | _x => D.ints IntKind.i64 (routeAt (nodeAt c i) k).via)) ∧
  True)) (True ∧ sw (decide ((8 : Int) < (↑(nodeAt c (↑g : Int).toNat).peers.length : Int))) (false = soundB (cfOf [O.agg [O.d (D.recs (5 : Nat) c.nodes.length fun (i j : Nat) => match j with | (0 : Nat) => D.v (Value.string (nodeAt c i).host) | (1 : Nat) => D.v (Value.string (nodeAt c i).realm) | (2 : Nat) => D.v (Value.bool (nodeAt c i).serves) | (3 : Nat) => D.ints IntKind.i64 (nodeAt c i).peers | _x => D.recs (2 : Nat) (nodeAt c i).routes.length fun (k j : Nat) => match j with | (0 : Nat) => D.v (Value.string (routeAt (nodeAt c i) k).realm) | _x => D.ints IntKind.i64 (routeAt (nodeAt c i) k).via), O.d (D.v (Value.int IntKind.i64 c.window)), O.d (D.v (Value.int IntKind.i64 c.stored)), O.d (D.v (Value.int IntKind.i64 c.wait)), O.d (D.v (Value.int IntKind.i64 c.beat))]]) ∧
  true = true) (∃ (p_1 : Nat), ∃ (g0_2 : Nat), (g0_2 ≤ (nodeAt c p_1).peers.length ∧ ∀ (k' : Nat), k' < g0_2 → PeerOk c p_1 k') ∧ (0 : Int) = (↑g0_2 : Int) ∧
  true = true ∧ ∀ (g_2 : Nat), (g_2 ≤ (nodeAt c p_1).peers.length ∧ ∀ (k' : Nat), k' < g_2 → PeerOk c p_1 k') → True ∧ sw (decide ((↑g_2 : Int) < (↑(nodeAt c (↑g : Int).toNat).peers.length : Int))) (((0 : Int) ≤ (↑g_2 : Int) ∧
  (↑g_2 : Int) < (↑(nodeAt c (↑g : Int).toNat).peers.length : Int)) ∧ True ∧ sw (decide ((nodeAt c (↑g : Int).toNat).peers.getD (↑g_2 : Int).toNat (0 : Int) < (0 : Int))) (false = soundB (cfOf [O.agg [O.d (D.recs (5 : Nat) c.nodes.length fun (i j : Nat) => match j with | (0 : Nat) => D.v (Value.string (nodeAt c i).host) | (1 : Nat) => D.v (Value.string (nodeAt c i).realm) | (2 : Nat) => D.v (Value.bool (nodeAt c i).serves) | (3 : Nat) => D.ints IntKind.i64 (nodeAt c i).peers | _x => D.recs (2 : Nat) (nodeAt c i).routes.length fun (k j : Nat) => match j with | (0 : Nat) => D.v (Value.string (routeAt (nodeAt c i) k).realm) | _x => D.ints IntKind.i64 (routeAt (nodeAt c i) k).via), O.d (D.v (Value.int IntKind.i64 c.window)), O.d (D.v (Value.int IntKind.i64 c.stored)), O.d (D.v (Value.int IntKind.i64 c.wait)), O.d (D.v (Value.int IntKind.i64 c.beat))]]) ∧
  true = true) (True ∧ sw (decide ((↑c.nodes.length : Int) ≤ (nodeAt c (↑g : Int).toNat).peers.getD (↑g_2 : Int).toNat (0 : Int))) (false = soundB (cfOf [O.agg [O.d (D.recs (5 : Nat) c.nodes.length fun (i j : Nat) => match j with | (0 : Nat) => D.v (Value.string (nodeAt c i).host) | (1 : Nat) => D.v (Value.string (nodeAt c i).realm) | (2 : Nat) => D.v (Value.bool (nodeAt c i).serves) | (3 : Nat) => D.ints IntKind.i64 (nodeAt c i).peers | _x => D.recs (2 : Nat) (nodeAt c i).routes.length fun (k j : Nat) => match j with | (0 : Nat) => D.v (Value.string (routeAt (nodeAt c i) k).realm) | _x => D.ints IntKind.i64 (routeAt (nodeAt c i) k).via), O.d (D.v (Value.int IntKind.i64 c.window)), O.d (D.v (Value.int IntKind.i64 c.stored)), O.d (D.v (Value.int IntKind.i64 c.wait)), O.d (D.v (Value.int IntKind.i64 c.beat))]]) ∧
  true = true) (True ∧ sw (decide ((nodeAt c (↑g : Int).toNat).peers.getD (↑g_2 : Int).toNat (0 : Int) = (↑g : Int))) (false = soundB (cfOf [O.agg [O.d (D.recs (5 : Nat) c.nodes.length fun (i j : Nat) => match j with | (0 : Nat) => D.v (Value.string (nodeAt c i).host) | (1 : Nat) => D.v (Value.string (nodeAt c i).realm) | (2 : Nat) => D.v (Value.bool (nodeAt c i).serves) | (3 : Nat) => D.ints IntKind.i64 (nodeAt c i).peers | _x => D.recs (2 : Nat) (nodeAt c i).routes.length fun (k j : Nat) => match j with | (0 : Nat) => D.v (Value.string (routeAt (nodeAt c i) k).realm) | _x => D.ints IntKind.i64 (routeAt (nodeAt c i) k).via), O.d (D.v (Value.int IntKind.i64 c.window)), O.d (D.v (Value.int IntKind.i64 c.stored)), O.d (D.v (Value.int IntKind.i64 c.wait)), O.d (D.v (Value.int IntKind.i64 c.beat))]]) ∧
  true = true) (((0 : Int) ≤ (↑g_2 : Int) ∧ (↑g_2 : Int) ≤ (↑(nodeAt c (↑g : Int).toNat).peers.length : Int)) ∧ (∃ (l : List Int), ∃ (p_2 : Int), [O.d (D.ints IntKind.i64 (List.take (↑g_2 : Int).toNat (nodeAt c (↑g : Int).toNat).peers)), O.d (D.v (Value.int IntKind.i64 ((nodeAt c (↑g : Int).toNat).peers.getD (↑g_2 : Int).toNat (0 : Int))))] = [O.d (D.ints IntKind.i64 l), O.d (D.v (Value.int IntKind.i64 p_2))] ∧
  l.length ≤ (1099511627776 : Nat)) ∧ sw (inB (List.take (↑g_2 : Int).toNat (nodeAt c (↑g : Int).toNat).peers) ((nodeAt c (↑g : Int).toNat).peers.getD (↑g_2 : Int).toNat (0 : Int))) (false = soundB (cfOf [O.agg [O.d (D.recs (5 : Nat) c.nodes.length fun (i j : Nat) => match j with | (0 : Nat) => D.v (Value.string (nodeAt c i).host) | (1 : Nat) => D.v (Value.string (nodeAt c i).realm) | (2 : Nat) => D.v (Value.bool (nodeAt c i).serves) | (3 : Nat) => D.ints IntKind.i64 (nodeAt c i).peers | _x => D.recs (2 : Nat) (nodeAt c i).routes.length fun (k j : Nat) => match j with | (0 : Nat) => D.v (Value.string (routeAt (nodeAt c i) k).realm) | _x => D.ints IntKind.i64 (routeAt (nodeAt c i) k).via), O.d (D.v (Value.int IntKind.i64 c.window)), O.d (D.v (Value.int IntKind.i64 c.stored)), O.d (D.v (Value.int IntKind.i64 c.wait)), O.d (D.v (Value.int IntKind.i64 c.beat))]]) ∧
  true = true) (((0 : Int) ≤ (nodeAt c (↑g : Int).toNat).peers.getD (↑g_2 : Int).toNat (0 : Int) ∧ (nodeAt c (↑g : Int).toNat).peers.getD (↑g_2 : Int).toNat (0 : Int) < (↑c.nodes.length : Int)) ∧
  (∃ (l : List Int), ∃ (p_2 : Int), [O.d (D.ints IntKind.i64 (nodeAt c ((nodeAt c (↑g : Int).toNat).peers.getD (↑g_2 : Int).toNat (0 : Int)).toNat).peers), O.d (D.v (Value.int IntKind.i64 (↑g : Int)))] = [O.d (D.ints IntKind.i64 l), O.d (D.v (Value.int IntKind.i64 p_2))] ∧
  l.length ≤ (1099511627776 : Nat)) ∧ sw (!inB (nodeAt c ((nodeAt c (↑g : Int).toNat).peers.getD (↑g_2 : Int).toNat (0 : Int)).toNat).peers (↑g : Int)) (false = soundB (cfOf [O.agg [O.d (D.recs (5 : Nat) c.nodes.length fun (i j : Nat) => match j with | (0 : Nat) => D.v (Value.string (nodeAt c i).host) | (1 : Nat) => D.v (Value.string (nodeAt c i).realm) | (2 : Nat) => D.v (Value.bool (nodeAt c i).serves) | (3 : Nat) => D.ints IntKind.i64 (nodeAt c i).peers | _x => D.recs (2 : Nat) (nodeAt c i).routes.length fun (k j : Nat) => match j with | (0 : Nat) => D.v (Value.string (routeAt (nodeAt c i) k).realm) | _x => D.ints IntKind.i64 (routeAt (nodeAt c i) k).via), O.d (D.v (Value.int IntKind.i64 c.window)), O.d (D.v (Value.int IntKind.i64 c.stored)), O.d (D.v (Value.int IntKind.i64 c.wait)), O.d (D.v (Value.int IntKind.i64 c.beat))]]) ∧
  true = true) (True ∧ ∃ (g' : Nat), (g' ≤ (nodeAt c p_1).peers.length ∧ ∀ (k' : Nat), k' < g' → PeerOk c p_1 k') ∧ (nodeAt c p_1).peers.length - g' < (nodeAt c p_1).peers.length - g_2 ∧
  (IntKind.i64.wrap ((↑g_2 : Int) + (1 : Int)) = (↑g' : Int) ∧ true = true) ∧ (some (SV.p (4 : Nat) (0 : Nat)) = some (SV.p (4 : Nat) (0 : Nat)) ∧ some (SV.c (Value.int IntKind.i64 (↑g : Int))) = some (SV.c (Value.int IntKind.i64 (↑g : Int))) ∧
  some (SV.p (1 : Nat) (0 : Nat)) = some (SV.p (1 : Nat) (0 : Nat)) ∧ True) ∧ some (R.ro (D.ints IntKind.u8 (List.map (fun (b : UInt8) => (↑b.toNat : Int)) (nodeAt c (↑g : Int).toNat).realm.data.toList))) = some (R.ro (D.ints IntKind.u8 (List.map (fun (b : UInt8) => (↑b.toNat : Int)) (nodeAt c (↑g : Int).toNat).realm.data.toList))) ∧
  some (R.ro (D.ints IntKind.u8 (List.map (fun (b : UInt8) => (↑b.toNat : Int)) (nodeAt c (↑g : Int).toNat).host.data.toList))) = some (R.ro (D.ints IntKind.u8 (List.map (fun (b : UInt8) => (↑b.toNat : Int)) (nodeAt c (↑g : Int).toNat).host.data.toList))) ∧
  some (R.blk (88 : Nat) [SV.c (Value.string (nodeAt c (↑g : Int).toNat).host), SV.c (Value.string (nodeAt c (↑g : Int).toNat).realm), SV.c (Value.bool (nodeAt c (↑g : Int).toNat).serves), SV.a (2 : Nat), SV.a (3 : Nat)]) = some (R.blk (88 : Nat) [SV.c (Value.string (nodeAt c (↑g : Int).toNat).host), SV.c (Value.string (nodeAt c (↑g : Int).toNat).realm), SV.c (Value.bool (nodeAt c (↑g : Int).toNat).serves), SV.a (2 : Nat), SV.a (3 : Nat)]) ∧
  some (R.ro (D.recs (2 : Nat) (nodeAt c (↑g : Int).toNat).routes.length fun (k j : Nat) => match j with | (0 : Nat) => D.v (Value.string (routeAt (nodeAt c (↑g : Int).toNat) k).realm) | _x => D.ints IntKind.i64 (routeAt (nodeAt c (↑g : Int).toNat) k).via)) = some (R.ro (D.recs (2 : Nat) (nodeAt c (↑g : Int).toNat).routes.length fun (k j : Nat) => match j with | (0 : Nat) => D.v (Value.string (routeAt (nodeAt c (↑g : Int).toNat) k).realm) | _x => D.ints IntKind.i64 (routeAt (nodeAt c (↑g : Int).toNat) k).via)) ∧
  some (R.ro (D.ints IntKind.i64 (nodeAt c (↑g : Int).toNat).peers)) = some (R.ro (D.ints IntKind.i64 (nodeAt c (↑g : Int).toNat).peers)) ∧ some (R.blk (24 : Nat) [SV.a (0 : Nat), SV.c (Value.int IntKind.i64 c.window), SV.c (Value.int IntKind.i64 c.stored), SV.c (Value.int IntKind.i64 c.wait), SV.c (Value.int IntKind.i64 c.beat)]) = some (R.blk (24 : Nat) [SV.a (0 : Nat), SV.c (Value.int IntKind.i64 c.window), SV.c (Value.int IntKind.i64 c.stored), SV.c (Value.int IntKind.i64 c.wait), SV.c (Value.int IntKind.i64 c.beat)]) ∧
  some (R.ro (D.recs (5 : Nat) c.nodes.length fun (i j : Nat) => match j with | (0 : Nat) => D.v (Value.string (nodeAt c i).host) | (1 : Nat) => D.v (Value.string (nodeAt c i).realm) | (2 : Nat) => D.v (Value.bool (nodeAt c i).serves) | (3 : Nat) => D.ints IntKind.i64 (nodeAt c i).peers | _x => D.recs (2 : Nat) (nodeAt c i).routes.length fun (k j : Nat) => match j with | (0 : Nat) => D.v (Value.string (routeAt (nodeAt c i) k).realm) | _x => D.ints IntKind.i64 (routeAt (nodeAt c i) k).via)) = some (R.ro (D.recs (5 : Nat) c.nodes.length fun (i j : Nat) => match j with | (0 : Nat) => D.v (Value.string (nodeAt c i).host) | (1 : Nat) => D.v (Value.string (nodeAt c i).realm) | (2 : Nat) => D.v (Value.bool (nodeAt c i).serves) | (3 : Nat) => D.ints IntKind.i64 (nodeAt c i).peers | _x => D.recs (2 : Nat) (nodeAt c i).routes.length fun (k j : Nat) => match j with | (0 : Nat) => D.v (Value.string (routeAt (nodeAt c i) k).realm) | _x => D.ints IntKind.i64 (routeAt (nodeAt c i) k).via)) ∧
  True)))))) (∃ (p_2 : Nat), ∃ (g0_3 : Nat), (g0_3 ≤ (nodeAt c p_2).routes.length ∧ ∀ (k' : Nat), k' < g0_3 → RouteOk (nodeAt c p_2) k') ∧ (0 : Int) = (↑g0_3 : Int) ∧
  true = true ∧ ∀ (g_3 : Nat), (g_3 ≤ (nodeAt c p_2).routes.length ∧ ∀ (k' : Nat), k' < g_3 → RouteOk (nodeAt c p_2) k') → True ∧ sw (decide ((↑g_3 : Int) < (↑(nodeAt c (↑g : Int).toNat).routes.length : Int))) (((0 : Int) ≤ (↑g_3 : Int) ∧
  (↑g_3 : Int) < (↑(nodeAt c (↑g : Int).toNat).routes.length : Int)) ∧ (∃ (l : List Int), [O.d (D.ints IntKind.u8 (List.map (fun (b : UInt8) => (↑b.toNat : Int)) (routeAt (nodeAt c (↑g : Int).toNat) (↑g_3 : Int).toNat).realm.data.toList))] = [O.d (D.ints IntKind.u8 l)] ∧
  sm l.length) ∧ sw (!nameB (List.map (fun (b : UInt8) => (↑b.toNat : Int)) (routeAt (nodeAt c (↑g : Int).toNat) (↑g_3 : Int).toNat).realm.data.toList)) (false = soundB (cfOf [O.agg [O.d (D.recs (5 : Nat) c.nodes.length fun (i j : Nat) => match j with | (0 : Nat) => D.v (Value.string (nodeAt c i).host) | (1 : Nat) => D.v (Value.string (nodeAt c i).realm) | (2 : Nat) => D.v (Value.bool (nodeAt c i).serves) | (3 : Nat) => D.ints IntKind.i64 (nodeAt c i).peers | _x => D.recs (2 : Nat) (nodeAt c i).routes.length fun (k j : Nat) => match j with | (0 : Nat) => D.v (Value.string (routeAt (nodeAt c i) k).realm) | _x => D.ints IntKind.i64 (routeAt (nodeAt c i) k).via), O.d (D.v (Value.int IntKind.i64 c.window)), O.d (D.v (Value.int IntKind.i64 c.stored)), O.d (D.v (Value.int IntKind.i64 c.wait)), O.d (D.v (Value.int IntKind.i64 c.beat))]]) ∧
  true = true) (True ∧ sw (decide ((16 : Int) < (↑(routeAt (nodeAt c (↑g : Int).toNat) (↑g_3 : Int).toNat).via.length : Int))) (false = soundB (cfOf [O.agg [O.d (D.recs (5 : Nat) c.nodes.length fun (i j : Nat) => match j with | (0 : Nat) => D.v (Value.string (nodeAt c i).host) | (1 : Nat) => D.v (Value.string (nodeAt c i).realm) | (2 : Nat) => D.v (Value.bool (nodeAt c i).serves) | (3 : Nat) => D.ints IntKind.i64 (nodeAt c i).peers | _x => D.recs (2 : Nat) (nodeAt c i).routes.length fun (k j : Nat) => match j with | (0 : Nat) => D.v (Value.string (routeAt (nodeAt c i) k).realm) | _x => D.ints IntKind.i64 (routeAt (nodeAt c i) k).via), O.d (D.v (Value.int IntKind.i64 c.window)), O.d (D.v (Value.int IntKind.i64 c.stored)), O.d (D.v (Value.int IntKind.i64 c.wait)), O.d (D.v (Value.int IntKind.i64 c.beat))]]) ∧
  true = true) (∃ (p_3 : Nat × Nat), ∃ (g0_4 : Nat), (g0_4 ≤ (routeAt (nodeAt c p_3.fst) p_3.snd).via.length ∧ ∀ (j' : Nat), j' < g0_4 → ViaOk (nodeAt c p_3.fst) p_3.snd j') ∧
  (0 : Int) = (↑g0_4 : Int) ∧ true = true ∧ ∀ (g_4 : Nat), (g_4 ≤ (routeAt (nodeAt c p_3.fst) p_3.snd).via.length ∧ ∀ (j' : Nat), j' < g_4 → ViaOk (nodeAt c p_3.fst) p_3.snd j') →
  True ∧ sw (decide ((↑g_4 : Int) < (↑(routeAt (nodeAt c (↑g : Int).toNat) (↑g_3 : Int).toNat).via.length : Int))) (((0 : Int) ≤ (↑g_4 : Int) ∧ (↑g_4 : Int) < (↑(routeAt (nodeAt c (↑g : Int).toNat) (↑g_3 : Int).toNat).via.length : Int)) ∧
  (∃ (l : List Int), ∃ (p_4 : Int), [O.d (D.ints IntKind.i64 (nodeAt c (↑g : Int).toNat).peers), O.d (D.v (Value.int IntKind.i64 ((routeAt (nodeAt c (↑g : Int).toNat) (↑g_3 : Int).toNat).via.getD (↑g_4 : Int).toNat (0 : Int))))] = [O.d (D.ints IntKind.i64 l), O.d (D.v (Value.int IntKind.i64 p_4))] ∧
  l.length ≤ (1099511627776 : Nat)) ∧ sw (!inB (nodeAt c (↑g : Int).toNat).peers ((routeAt (nodeAt c (↑g : Int).toNat) (↑g_3 : Int).toNat).via.getD (↑g_4 : Int).toNat (0 : Int))) (false = soundB (cfOf [O.agg [O.d (D.recs (5 : Nat) c.nodes.length fun (i j : Nat) => match j with | (0 : Nat) => D.v (Value.string (nodeAt c i).host) | (1 : Nat) => D.v (Value.string (nodeAt c i).realm) | (2 : Nat) => D.v (Value.bool (nodeAt c i).serves) | (3 : Nat) => D.ints IntKind.i64 (nodeAt c i).peers | _x => D.recs (2 : Nat) (nodeAt c i).routes.length fun (k j : Nat) => match j with | (0 : Nat) => D.v (Value.string (routeAt (nodeAt c i) k).realm) | _x => D.ints IntKind.i64 (routeAt (nodeAt c i) k).via), O.d (D.v (Value.int IntKind.i64 c.window)), O.d (D.v (Value.int IntKind.i64 c.stored)), O.d (D.v (Value.int IntKind.i64 c.wait)), O.d (D.v (Value.int IntKind.i64 c.beat))]]) ∧
  true = true) (True ∧ ∃ (g' : Nat), (g' ≤ (routeAt (nodeAt c p_3.fst) p_3.snd).via.length ∧ ∀ (j' : Nat), j' < g' → ViaOk (nodeAt c p_3.fst) p_3.snd j') ∧
  (routeAt (nodeAt c p_3.fst) p_3.snd).via.length - g' < (routeAt (nodeAt c p_3.fst) p_3.snd).via.length - g_4 ∧ (IntKind.i64.wrap ((↑g_4 : Int) + (1 : Int)) = (↑g' : Int) ∧
  true = true) ∧ (some (SV.p (8 : Nat) (0 : Nat)) = some (SV.p (8 : Nat) (0 : Nat)) ∧ some (SV.c (Value.int IntKind.i64 (↑g_3 : Int))) = some (SV.c (Value.int IntKind.i64 (↑g_3 : Int))) ∧
  some (SV.p (4 : Nat) (0 : Nat)) = some (SV.p (4 : Nat) (0 : Nat)) ∧ some (SV.c (Value.int IntKind.i64 (↑g : Int))) = some (SV.c (Value.int IntKind.i64 (↑g : Int))) ∧
  some (SV.p (1 : Nat) (0 : Nat)) = some (SV.p (1 : Nat) (0 : Nat)) ∧ True) ∧ some (R.ro (D.ints IntKind.u8 (List.map (fun (b : UInt8) => (↑b.toNat : Int)) (routeAt (nodeAt c (↑g : Int).toNat) (↑g_3 : Int).toNat).realm.data.toList))) = some (R.ro (D.ints IntKind.u8 (List.map (fun (b : UInt8) => (↑b.toNat : Int)) (routeAt (nodeAt c (↑g : Int).toNat) (↑g_3 : Int).toNat).realm.data.toList))) ∧
  some (R.blk (91 : Nat) [SV.c (Value.string (routeAt (nodeAt c (↑g : Int).toNat) (↑g_3 : Int).toNat).realm), SV.a (7 : Nat)]) = some (R.blk (91 : Nat) [SV.c (Value.string (routeAt (nodeAt c (↑g : Int).toNat) (↑g_3 : Int).toNat).realm), SV.a (7 : Nat)]) ∧
  some (R.ro (D.ints IntKind.i64 (routeAt (nodeAt c (↑g : Int).toNat) (↑g_3 : Int).toNat).via)) = some (R.ro (D.ints IntKind.i64 (routeAt (nodeAt c (↑g : Int).toNat) (↑g_3 : Int).toNat).via)) ∧
  some (R.ro (D.ints IntKind.u8 (List.map (fun (b : UInt8) => (↑b.toNat : Int)) (nodeAt c (↑g : Int).toNat).realm.data.toList))) = some (R.ro (D.ints IntKind.u8 (List.map (fun (b : UInt8) => (↑b.toNat : Int)) (nodeAt c (↑g : Int).toNat).realm.data.toList))) ∧
  some (R.ro (D.ints IntKind.u8 (List.map (fun (b : UInt8) => (↑b.toNat : Int)) (nodeAt c (↑g : Int).toNat).host.data.toList))) = some (R.ro (D.ints IntKind.u8 (List.map (fun (b : UInt8) => (↑b.toNat : Int)) (nodeAt c (↑g : Int).toNat).host.data.toList))) ∧
  some (R.blk (88 : Nat) [SV.c (Value.string (nodeAt c (↑g : Int).toNat).host), SV.c (Value.string (nodeAt c (↑g : Int).toNat).realm), SV.c (Value.bool (nodeAt c (↑g : Int).toNat).serves), SV.a (2 : Nat), SV.a (3 : Nat)]) = some (R.blk (88 : Nat) [SV.c (Value.string (nodeAt c (↑g : Int).toNat).host), SV.c (Value.string (nodeAt c (↑g : Int).toNat).realm), SV.c (Value.bool (nodeAt c (↑g : Int).toNat).serves), SV.a (2 : Nat), SV.a (3 : Nat)]) ∧
  some (R.ro (D.recs (2 : Nat) (nodeAt c (↑g : Int).toNat).routes.length fun (k j : Nat) => match j with | (0 : Nat) => D.v (Value.string (routeAt (nodeAt c (↑g : Int).toNat) k).realm) | _x => D.ints IntKind.i64 (routeAt (nodeAt c (↑g : Int).toNat) k).via)) = some (R.ro (D.recs (2 : Nat) (nodeAt c (↑g : Int).toNat).routes.length fun (k j : Nat) => match j with | (0 : Nat) => D.v (Value.string (routeAt (nodeAt c (↑g : Int).toNat) k).realm) | _x => D.ints IntKind.i64 (routeAt (nodeAt c (↑g : Int).toNat) k).via)) ∧
  some (R.ro (D.ints IntKind.i64 (nodeAt c (↑g : Int).toNat).peers)) = some (R.ro (D.ints IntKind.i64 (nodeAt c (↑g : Int).toNat).peers)) ∧ some (R.blk (24 : Nat) [SV.a (0 : Nat), SV.c (Value.int IntKind.i64 c.window), SV.c (Value.int IntKind.i64 c.stored), SV.c (Value.int IntKind.i64 c.wait), SV.c (Value.int IntKind.i64 c.beat)]) = some (R.blk (24 : Nat) [SV.a (0 : Nat), SV.c (Value.int IntKind.i64 c.window), SV.c (Value.int IntKind.i64 c.stored), SV.c (Value.int IntKind.i64 c.wait), SV.c (Value.int IntKind.i64 c.beat)]) ∧
  some (R.ro (D.recs (5 : Nat) c.nodes.length fun (i j : Nat) => match j with | (0 : Nat) => D.v (Value.string (nodeAt c i).host) | (1 : Nat) => D.v (Value.string (nodeAt c i).realm) | (2 : Nat) => D.v (Value.bool (nodeAt c i).serves) | (3 : Nat) => D.ints IntKind.i64 (nodeAt c i).peers | _x => D.recs (2 : Nat) (nodeAt c i).routes.length fun (k j : Nat) => match j with | (0 : Nat) => D.v (Value.string (routeAt (nodeAt c i) k).realm) | _x => D.ints IntKind.i64 (routeAt (nodeAt c i) k).via)) = some (R.ro (D.recs (5 : Nat) c.nodes.length fun (i j : Nat) => match j with | (0 : Nat) => D.v (Value.string (nodeAt c i).host) | (1 : Nat) => D.v (Value.string (nodeAt c i).realm) | (2 : Nat) => D.v (Value.bool (nodeAt c i).serves) | (3 : Nat) => D.ints IntKind.i64 (nodeAt c i).peers | _x => D.recs (2 : Nat) (nodeAt c i).routes.length fun (k j : Nat) => match j with | (0 : Nat) => D.v (Value.string (routeAt (nodeAt c i) k).realm) | _x => D.ints IntKind.i64 (routeAt (nodeAt c i) k).via)) ∧
  True)) (True ∧ ∃ (g' : Nat), (g' ≤ (nodeAt c p_2).routes.length ∧ ∀ (k' : Nat), k' < g' → RouteOk (nodeAt c p_2) k') ∧ (nodeAt c p_2).routes.length - g' < (nodeAt c p_2).routes.length - g_3 ∧
  (IntKind.i64.wrap ((↑g_3 : Int) + (1 : Int)) = (↑g' : Int) ∧ true = true) ∧ (some (SV.p (4 : Nat) (0 : Nat)) = some (SV.p (4 : Nat) (0 : Nat)) ∧ some (SV.c (Value.int IntKind.i64 (↑g : Int))) = some (SV.c (Value.int IntKind.i64 (↑g : Int))) ∧
  some (SV.p (1 : Nat) (0 : Nat)) = some (SV.p (1 : Nat) (0 : Nat)) ∧ True) ∧ some (R.ro (D.ints IntKind.u8 (List.map (fun (b : UInt8) => (↑b.toNat : Int)) (nodeAt c (↑g : Int).toNat).realm.data.toList))) = some (R.ro (D.ints IntKind.u8 (List.map (fun (b : UInt8) => (↑b.toNat : Int)) (nodeAt c (↑g : Int).toNat).realm.data.toList))) ∧
  some (R.ro (D.ints IntKind.u8 (List.map (fun (b : UInt8) => (↑b.toNat : Int)) (nodeAt c (↑g : Int).toNat).host.data.toList))) = some (R.ro (D.ints IntKind.u8 (List.map (fun (b : UInt8) => (↑b.toNat : Int)) (nodeAt c (↑g : Int).toNat).host.data.toList))) ∧
  some (R.blk (88 : Nat) [SV.c (Value.string (nodeAt c (↑g : Int).toNat).host), SV.c (Value.string (nodeAt c (↑g : Int).toNat).realm), SV.c (Value.bool (nodeAt c (↑g : Int).toNat).serves), SV.a (2 : Nat), SV.a (3 : Nat)]) = some (R.blk (88 : Nat) [SV.c (Value.string (nodeAt c (↑g : Int).toNat).host), SV.c (Value.string (nodeAt c (↑g : Int).toNat).realm), SV.c (Value.bool (nodeAt c (↑g : Int).toNat).serves), SV.a (2 : Nat), SV.a (3 : Nat)]) ∧
  some (R.ro (D.recs (2 : Nat) (nodeAt c (↑g : Int).toNat).routes.length fun (k j : Nat) => match j with | (0 : Nat) => D.v (Value.string (routeAt (nodeAt c (↑g : Int).toNat) k).realm) | _x => D.ints IntKind.i64 (routeAt (nodeAt c (↑g : Int).toNat) k).via)) = some (R.ro (D.recs (2 : Nat) (nodeAt c (↑g : Int).toNat).routes.length fun (k j : Nat) => match j with | (0 : Nat) => D.v (Value.string (routeAt (nodeAt c (↑g : Int).toNat) k).realm) | _x => D.ints IntKind.i64 (routeAt (nodeAt c (↑g : Int).toNat) k).via)) ∧
  some (R.ro (D.ints IntKind.i64 (nodeAt c (↑g : Int).toNat).peers)) = some (R.ro (D.ints IntKind.i64 (nodeAt c (↑g : Int).toNat).peers)) ∧ some (R.blk (24 : Nat) [SV.a (0 : Nat), SV.c (Value.int IntKind.i64 c.window), SV.c (Value.int IntKind.i64 c.stored), SV.c (Value.int IntKind.i64 c.wait), SV.c (Value.int IntKind.i64 c.beat)]) = some (R.blk (24 : Nat) [SV.a (0 : Nat), SV.c (Value.int IntKind.i64 c.window), SV.c (Value.int IntKind.i64 c.stored), SV.c (Value.int IntKind.i64 c.wait), SV.c (Value.int IntKind.i64 c.beat)]) ∧
  some (R.ro (D.recs (5 : Nat) c.nodes.length fun (i j : Nat) => match j with | (0 : Nat) => D.v (Value.string (nodeAt c i).host) | (1 : Nat) => D.v (Value.string (nodeAt c i).realm) | (2 : Nat) => D.v (Value.bool (nodeAt c i).serves) | (3 : Nat) => D.ints IntKind.i64 (nodeAt c i).peers | _x => D.recs (2 : Nat) (nodeAt c i).routes.length fun (k j : Nat) => match j with | (0 : Nat) => D.v (Value.string (routeAt (nodeAt c i) k).realm) | _x => D.ints IntKind.i64 (routeAt (nodeAt c i) k).via)) = some (R.ro (D.recs (5 : Nat) c.nodes.length fun (i j : Nat) => match j with | (0 : Nat) => D.v (Value.string (nodeAt c i).host) | (1 : Nat) => D.v (Value.string (nodeAt c i).realm) | (2 : Nat) => D.v (Value.bool (nodeAt c i).serves) | (3 : Nat) => D.ints IntKind.i64 (nodeAt c i).peers | _x => D.recs (2 : Nat) (nodeAt c i).routes.length fun (k j : Nat) => match j with | (0 : Nat) => D.v (Value.string (routeAt (nodeAt c i) k).realm) | _x => D.ints IntKind.i64 (routeAt (nodeAt c i) k).via)) ∧
  True)))) (True ∧ ∃ (g' : Nat), (g' ≤ c.nodes.length ∧ ∀ (k : Nat), k < g' → NodeOk c k) ∧ c.nodes.length - g' < c.nodes.length - g ∧ (IntKind.i64.wrap ((↑g : Int) + (1 : Int)) = (↑g' : Int) ∧
  true = true) ∧ (some (SV.p (1 : Nat) (0 : Nat)) = some (SV.p (1 : Nat) (0 : Nat)) ∧ True) ∧ some (R.blk (24 : Nat) [SV.a (0 : Nat), SV.c (Value.int IntKind.i64 c.window), SV.c (Value.int IntKind.i64 c.stored), SV.c (Value.int IntKind.i64 c.wait), SV.c (Value.int IntKind.i64 c.beat)]) = some (R.blk (24 : Nat) [SV.a (0 : Nat), SV.c (Value.int IntKind.i64 c.window), SV.c (Value.int IntKind.i64 c.stored), SV.c (Value.int IntKind.i64 c.wait), SV.c (Value.int IntKind.i64 c.beat)]) ∧
  some (R.ro (D.recs (5 : Nat) c.nodes.length fun (i j : Nat) => match j with | (0 : Nat) => D.v (Value.string (nodeAt c i).host) | (1 : Nat) => D.v (Value.string (nodeAt c i).realm) | (2 : Nat) => D.v (Value.bool (nodeAt c i).serves) | (3 : Nat) => D.ints IntKind.i64 (nodeAt c i).peers | _x => D.recs (2 : Nat) (nodeAt c i).routes.length fun (k j : Nat) => match j with | (0 : Nat) => D.v (Value.string (routeAt (nodeAt c i) k).realm) | _x => D.ints IntKind.i64 (routeAt (nodeAt c i) k).via)) = some (R.ro (D.recs (5 : Nat) c.nodes.length fun (i j : Nat) => match j with | (0 : Nat) => D.v (Value.string (nodeAt c i).host) | (1 : Nat) => D.v (Value.string (nodeAt c i).realm) | (2 : Nat) => D.v (Value.bool (nodeAt c i).serves) | (3 : Nat) => D.ints IntKind.i64 (nodeAt c i).peers | _x => D.recs (2 : Nat) (nodeAt c i).routes.length fun (k j : Nat) => match j with | (0 : Nat) => D.v (Value.string (routeAt (nodeAt c i) k).realm) | _x => D.ints IntKind.i64 (routeAt (nodeAt c i) k).via)) ∧
  True)))))))) (true = soundB (cfOf [O.agg [O.d (D.recs (5 : Nat) c.nodes.length fun (i j : Nat) => match j with | (0 : Nat) => D.v (Value.string (nodeAt c i).host) | (1 : Nat) => D.v (Value.string (nodeAt c i).realm) | (2 : Nat) => D.v (Value.bool (nodeAt c i).serves) | (3 : Nat) => D.ints IntKind.i64 (nodeAt c i).peers | _x => D.recs (2 : Nat) (nodeAt c i).routes.length fun (k j : Nat) => match j with | (0 : Nat) => D.v (Value.string (routeAt (nodeAt c i) k).realm) | _x => D.ints IntKind.i64 (routeAt (nodeAt c i) k).via), O.d (D.v (Value.int IntKind.i64 c.window)), O.d (D.v (Value.int IntKind.i64 c.stored)), O.d (D.v (Value.int IntKind.i64 c.wait)), O.d (D.v (Value.int IntKind.i64 c.beat))]]) ∧
  true = true))))))))))) := by
  intro c h
  generalize hG : soundB (cfOf _) = S
  have hSc : S = soundB c := hG.symm.trans (congrArg soundB (cfOf_cf c))
  clear hG
  have good (k : SoundP c) : true = S ∧ true = true := ⟨by rw [hSc]; unfold soundB; exact (@decide_eq_true _ (Classical.propDecidable _) k).symm, rfl⟩
  have bad (k : ¬ SoundP c) : false = S ∧ true = true := ⟨by rw [hSc]; unfold soundB; exact (@decide_eq_false _ (Classical.propDecidable _) k).symm, rfl⟩
  have nob (k : ¬ BaseOk c) : false = S ∧ true = true := bad fun hs => k hs.1
  unfold BaseOk at nob
  iterate 10
    refine tsw_mk (fun e => nob (by have e := of_decide_eq_true e; omega)) fun e => ?_
    replace e := of_decide_eq_false e
  have base : BaseOk c := by unfold BaseOk; omega
  refine ⟨0, ⟨Nat.zero_le _, fun k hk => absurd hk (by omega)⟩, rfl, rfl, ?_⟩
  rintro g ⟨hg, hok⟩
  refine tsw_mk (fun hlt => ?_) (fun hge => ?_)
  · replace hlt : g < c.nodes.length := by have := of_decide_eq_true hlt; omega
    rw [Int.toNat_natCast g]
    have hmem : nodeAt c g ∈ c.nodes := by
      exact getD_mem hlt
    obtain ⟨z1, z2, z3, z4, z5⟩ := h.2 _ hmem
    have nono (k : ¬ NodeOk c g) : false = S ∧ true = true := bad fun hs => k (hs.2 g hlt)
    refine ⟨⟨by omega, by omega⟩, ⟨_, rfl, by unfold sm; rw [sB_len]; exact z1⟩, sw_mk (fun e => nono fun hn => ?_) fun e1 => ?_⟩
    · have := hn.1.1
      unfold sB at this
      rw [this] at e
      cases e
    refine ⟨⟨_, rfl, by unfold sm; rw [sB_len]; exact z2⟩, sw_mk (fun e => nono fun hn => ?_) fun e2 => ?_⟩
    · have := hn.1.2.1
      unfold sB at this
      rw [this] at e
      cases e
    refine tsw_mk (fun e => nono fun hn => ?_) fun e3 => ?_
    · have := hn.1.2.2
      have e := of_decide_eq_true e
      omega
    have head : NodeHead (nodeAt c g) := ⟨by unfold sB; simpa using e1, by unfold sB; simpa using e2, by have := of_decide_eq_false e3; omega⟩
    refine ⟨g, 0, ⟨Nat.zero_le _, fun k hk => absurd hk (by omega)⟩, rfl, rfl, ?_⟩
    rintro k ⟨hk, hh⟩
    refine tsw_mk (fun hkl => ?_) (fun hkg => ?_)
    · replace hkl : k < g := by have := of_decide_eq_true hkl; omega
      rw [Int.toNat_natCast k]
      refine ⟨⟨by omega, by omega⟩, trivial, sw_mk (fun e => nono fun hn => hn.2.1 k hkl (of_decide_eq_true e)) fun e => ⟨trivial, k + 1, ⟨hkl, fun k' hk' => ?_⟩, by omega, ⟨by rw [IntKind.wrap_i64]; omega, rfl⟩, ?_, ?_⟩⟩
      · rcases Nat.lt_or_ge k' k with h' | h'
        · exact hh k' h'
        · obtain rfl : k' = k := by omega
          exact of_decide_eq_false e
      all_goals repeat' (first | exact trivial | exact rfl | refine And.intro ?_ ?_)
    obtain rfl : k = g := by have := of_decide_eq_false hkg; omega
    refine tsw_mk (fun e => nono fun hn => ?_) fun e4 => ?_
    · have := hn.2.2.1
      have e := of_decide_eq_true e
      omega
    have hlen : (nodeAt c k).peers.length ≤ 8 := by have := of_decide_eq_false e4; omega
    refine ⟨k, 0, ⟨Nat.zero_le _, fun j hj => absurd hj (by omega)⟩, rfl, rfl, ?_⟩
    rintro j ⟨hj, hp⟩
    refine tsw_mk (fun hjl => ?_) (fun hjg => ?_)
    · replace hjl : j < (nodeAt c k).peers.length := by have := of_decide_eq_true hjl; omega
      rw [Int.toNat_natCast j]
      have nop (q : ¬ PeerOk c k j) : false = S ∧ true = true := nono fun hn => q (hn.2.2.2.1 j hjl)
      refine ⟨⟨by omega, by omega⟩, ?_⟩
      refine tsw_mk (fun e => nop fun hq => ?_) fun p1 => ?_
      · have := hq.1
        have e := of_decide_eq_true e
        unfold peerAt at this
        omega
      refine tsw_mk (fun e => nop fun hq => ?_) fun p2 => ?_
      · have := hq.2.1
        have e := of_decide_eq_true e
        unfold peerAt at this
        omega
      refine tsw_mk (fun e => nop fun hq => hq.2.2.1 (of_decide_eq_true e)) fun p3 => ?_
      replace p1 := of_decide_eq_false p1
      replace p2 := of_decide_eq_false p2
      replace p3 := of_decide_eq_false p3
      refine ⟨⟨by omega, by omega⟩, ⟨_, _, rfl, Nat.le_trans (List.length_take_le _ _) (by omega)⟩, sw_mk (fun e => nop fun hq => hq.2.2.2.1 (inB_mem.1 e)) fun p4 => ?_⟩
      have hidx : ((nodeAt c k).peers.getD j 0).toNat < c.nodes.length := by omega
      have hmem2 : nodeAt c ((nodeAt c k).peers.getD j 0).toNat ∈ c.nodes := by
        exact getD_mem hidx
      refine ⟨⟨by omega, by omega⟩, ⟨_, _, rfl, (h.2 _ hmem2).2.2.1⟩, sw_mk (fun e => nop fun hq => ?_) fun p5 => ?_⟩
      · have := inB_mem.2 hq.2.2.2.2
        unfold peerAt at this
        rw [this] at e
        cases e
      refine ⟨trivial, j + 1, ⟨hjl, fun j' hj' => ?_⟩, by omega, ⟨by rw [IntKind.wrap_i64]; omega, rfl⟩, ?_, ?_⟩
      · rcases Nat.lt_or_ge j' j with h' | h'
        · exact hp j' h'
        · obtain rfl : j' = j := by omega
          refine ⟨by unfold peerAt; omega, by unfold peerAt; omega, p3, fun hin => ?_, ?_⟩
          · have := inB_mem.2 hin
            unfold peerAt at this
            rw [this] at p4
            cases p4
          · exact inB_mem.1 (not_ff p5)
      all_goals repeat' (first | exact trivial | exact rfl | refine And.intro ?_ ?_)
    obtain rfl : j = (nodeAt c k).peers.length := by have := of_decide_eq_false hjg; omega
    refine ⟨k, 0, ⟨Nat.zero_le _, fun j hj => absurd hj (by omega)⟩, rfl, rfl, ?_⟩
    rintro r ⟨hr, hrs⟩
    refine tsw_mk (fun hrl => ?_) (fun hrg => ?_)
    · replace hrl : r < (nodeAt c k).routes.length := by have := of_decide_eq_true hrl; omega
      rw [Int.toNat_natCast r]
      have nor (q : ¬ RouteOk (nodeAt c k) r) : false = S ∧ true = true := nono fun hn => q (hn.2.2.2.2 r hrl)
      have hmemr : routeAt (nodeAt c k) r ∈ (nodeAt c k).routes := by
        exact getD_mem hrl
      obtain ⟨y1, y2⟩ := z5 _ hmemr
      refine ⟨⟨by omega, by omega⟩, ⟨_, rfl, by unfold sm; rw [sB_len]; exact y1⟩, sw_mk (fun e => nor fun hq => ?_) fun q1 => ?_⟩
      · have := hq.1.1
        unfold sB at this
        rw [this] at e
        cases e
      refine tsw_mk (fun e => nor fun hq => ?_) fun q2 => ?_
      · have := hq.1.2
        have e := of_decide_eq_true e
        omega
      have rh : RouteHead (nodeAt c k) r := ⟨by unfold sB; simpa using q1, by have := of_decide_eq_false q2; omega⟩
      refine ⟨(k, r), 0, ⟨Nat.zero_le _, fun j hj => absurd hj (by omega)⟩, rfl, rfl, ?_⟩
      rintro v ⟨hv, hvs⟩
      simp only at hv hvs
      refine tsw_mk (fun hvl => ?_) (fun hvg => ?_)
      · replace hvl : v < (routeAt (nodeAt c k) r).via.length := by have := of_decide_eq_true hvl; omega
        rw [Int.toNat_natCast v]
        refine ⟨⟨by omega, by omega⟩, ⟨_, _, rfl, z3⟩, sw_mk (fun e => nor fun hq => ?_) fun s1 => ?_⟩
        · have := inB_mem.2 (hq.2 v hvl)
          rw [this] at e
          cases e
        refine ⟨trivial, v + 1, ⟨hvl, fun v' hv' => ?_⟩, by simp only; omega, ⟨by rw [IntKind.wrap_i64]; omega, rfl⟩, ?_, ?_⟩
        · rcases Nat.lt_or_ge v' v with h' | h'
          · exact hvs v' h'
          · obtain rfl : v' = v := by omega
            exact inB_mem.1 (not_ff s1)
        all_goals repeat' (first | exact trivial | exact rfl | refine And.intro ?_ ?_)
      · obtain rfl : v = (routeAt (nodeAt c k) r).via.length := by have := of_decide_eq_false hvg; omega
        refine ⟨trivial, r + 1, ⟨hrl, fun r' hr' => ?_⟩, by omega, ⟨by rw [IntKind.wrap_i64]; omega, rfl⟩, ?_, ?_⟩
        · rcases Nat.lt_or_ge r' r with h' | h'
          · exact hrs r' h'
          · obtain rfl : r' = r := by omega
            exact ⟨rh, hvs⟩
        all_goals repeat' (first | exact trivial | exact rfl | refine And.intro ?_ ?_)
    · obtain rfl : r = (nodeAt c k).routes.length := by have := of_decide_eq_false hrg; omega
      refine ⟨trivial, k + 1, ⟨hlt, fun k' hk' => ?_⟩, by omega, ⟨by rw [IntKind.wrap_i64]; omega, rfl⟩, ?_, ?_⟩
      · rcases Nat.lt_or_ge k' k with h' | h'
        · exact hok k' h'
        · obtain rfl : k' = k := by omega
          exact ⟨head, hh, hlen, hp, hrs⟩
      all_goals repeat' (first | exact trivial | exact rfl | refine And.intro ?_ ?_)
  · obtain rfl : g = c.nodes.length := by have := of_decide_eq_false hge; omega
    exact good ⟨base, hok⟩
set_option maxRecDepth 100000 in
theorem ok13 : FnIs Tryz.prog 13 refC := by
  refine fnIs (C := (ctrs r1)) (by kernel_rfl) r1_ok Tryz.func13 (code := code13) (by kernel_rfl) (by kernel_rfl) ?_
  rintro a ⟨c, rfl, h⟩
  exact ⟨anns [(4, outAnn c), (10, .fam Nat (hostAnn c)), (17, .fam Nat (peerAnn c)), (23, .fam Nat (routeAnn c)), (29, .fam (Nat × Nat) (fun p => viaAnn c p.1 p.2))] [1, 7, 20, 26] (dr := [(4, [0, 11, 12, 13, 14, 15, 16, 17, 18, 19, 20, 21, 22, 23, 24, 25, 26, 27, 28, 29, 30, 31, 32, 33, 34, 35, 36, 37, 38, 39, 40, 41, 42, 43, 44, 45, 46, 47, 48, 49, 50, 51, 52, 53, 54, 55, 56, 57, 58, 59, 60]), (10, [0, 11, 12, 13, 14, 15, 16, 17, 18, 19, 20, 21, 22, 23, 24, 25, 26, 27, 28, 29, 30, 31, 32, 33, 34, 35, 36, 37, 38, 39, 40, 41, 42, 43, 44, 45, 46, 47, 48, 49, 50, 51, 52, 53, 54, 55, 56, 57, 58, 59, 60, 61, 62, 63, 64, 65, 68, 69, 70, 71, 72, 73, 74, 75, 76, 77, 78, 79, 80, 81, 82, 83, 84, 85, 86, 87, 88, 89, 90]), (17, [0, 5, 11, 12, 13, 14, 15, 16, 17, 18, 19, 20, 21, 22, 23, 24, 25, 26, 27, 28, 29, 30, 31, 32, 33, 34, 35, 36, 37, 38, 39, 40, 41, 42, 43, 44, 45, 46, 47, 48, 49, 50, 51, 52, 53, 54, 55, 56, 57, 58, 59, 60, 61, 62, 63, 64, 65, 68, 69, 70, 71, 72, 73, 74, 75, 76, 77, 78, 79, 80, 81, 82, 83, 84, 85, 86, 87, 88, 89, 90, 91, 92, 93, 94, 95, 96, 97, 98, 99, 100, 101, 102, 103, 104, 105, 106, 107, 108]), (23, [0, 5, 6, 7, 11, 12, 13, 14, 15, 16, 17, 18, 19, 20, 21, 22, 23, 24, 25, 26, 27, 28, 29, 30, 31, 32, 33, 34, 35, 36, 37, 38, 39, 40, 41, 42, 43, 44, 45, 46, 47, 48, 49, 50, 51, 52, 53, 54, 55, 56, 57, 58, 59, 60, 61, 62, 63, 64, 65, 68, 69, 70, 71, 72, 73, 74, 75, 76, 77, 78, 79, 80, 81, 82, 83, 84, 85, 86, 87, 88, 89, 90, 91, 92, 93, 94, 95, 96, 97, 98, 99, 100, 101, 102, 103, 104, 105, 106, 107, 108, 109, 110, 111, 112, 113, 114, 115, 116, 117, 118, 119, 120, 121, 122, 123, 124, 125, 126, 127, 128, 129, 130, 131, 132, 133, 134, 135, 136, 137, 138, 139, 140, 141, 142, 143, 144, 145, 146, 147, 148, 149, 150, 151, 152, 153]), (29, [0, 5, 6, 7, 11, 12, 13, 14, 15, 16, 17, 18, 19, 20, 21, 22, 23, 24, 25, 26, 27, 28, 29, 30, 31, 32, 33, 34, 35, 36, 37, 38, 39, 40, 41, 42, 43, 44, 45, 46, 47, 48, 49, 50, 51, 52, 53, 54, 55, 56, 57, 58, 59, 60, 61, 62, 63, 64, 65, 68, 69, 70, 71, 72, 73, 74, 75, 76, 77, 78, 79, 80, 81, 82, 83, 84, 85, 86, 87, 88, 89, 90, 91, 92, 93, 94, 95, 96, 97, 98, 99, 100, 101, 102, 103, 104, 105, 106, 107, 108, 109, 110, 111, 112, 113, 114, 115, 116, 117, 118, 119, 120, 121, 122, 123, 124, 125, 126, 127, 128, 129, 130, 131, 132, 133, 134, 135, 136, 137, 138, 139, 140, 141, 142, 143, 144, 145, 146, 147, 148, 149, 150, 151, 152, 153, 154, 155, 156, 157, 158, 161, 162, 163, 164, 165, 166, 167, 168, 169, 170, 171, 172, 173, 174, 175, 176])]), kcast (vc13 c h) (by kernel_rfl)⟩

end Go.ZR

set_option maxRecDepth 100000
namespace Go.ZM
open Go.Z Go.ZR
def RoutedP (d : Nd) : Prop := d.routes.length ≤ 16 ∧ ∀ k, k < d.routes.length → RouteOk d k
open Classical in
noncomputable def routedB (d : Nd) : Bool := decide (RoutedP d)
def smD (d : Nd) : Prop := d.host.size ≤ 1099511627776 ∧ d.realm.size ≤ 1099511627776 ∧ d.peers.length ≤ 1099511627776 ∧ d.routes.length ≤ 1099511627776 ∧ ∀ r, r ∈ d.routes → r.realm.size ≤ 1099511627776 ∧ r.via.length ≤ 1099511627776
def ndOf (a : List O) : Nd :=
  match a with
  | [.agg [a0, a1, a2, a3, a4]] => ⟨strOf (dO a0), strOf (dO a1), vb (dO a2), vl (dO a3), rtsOf (dO a4)⟩
  | _ => noNd
end Go.ZM
namespace Go.ZR
open Go.Z Go.ZM Go.Proofs
def ndO (d : Nd) : O := .agg [.d (.v (.string d.host)), .d (.v (.string d.realm)), bO d.serves, .d (.ints .i64 d.peers), .d (.recs 2 d.routes.length (rtCell d))]
theorem ndOf_nd (d : Nd) : ndOf [ndO d] = d := by
  show (⟨d.host, d.realm, d.serves, d.peers, rtsOf (.recs 2 d.routes.length (rtCell d))⟩ : Nd) = d
  rw [rtsOf_cell]
noncomputable def routedC : Ctr := nC 1 false (fun a => ∃ d, a = [ndO d] ∧ smD d) fun a => [bO (routedB (ndOf a))]
def idxIAnn (l : List Int) (p : Int) : LoopAnn where
  γ := Nat
  pre := fun i => i ≤ l.length ∧ inB l p = inB (l.drop i) p
  μ := fun i => l.length - i
  items := fun i => [(8, .c (iO .i64 (i : Int)))]
def rtAnn (d : Nd) : LoopAnn where
  γ := Nat
  pre := fun k => k ≤ d.routes.length ∧ ∀ k', k' < k → RouteOk d k'
  μ := fun k => d.routes.length - k
  items := fun k => [(8, .c (iO .i64 (k : Int)))]
def rvAnn (d : Nd) (k : Nat) : LoopAnn where
  γ := Nat
  pre := fun j => j ≤ (routeAt d k).via.length ∧ ∀ j', j' < j → ViaOk d k j'
  μ := fun j => (routeAt d k).via.length - j
  items := fun j => [(8, .c (iO .i64 (j : Int)))]
def b1 : List (Nat × Ctr) := [(41, fitsC), (44, inC)]
end Go.ZR
