/- Part 21 of what the closing text rests on. -/
import Derived.Test.YtdamnoleoakehaaGreatDoorH20
import Derived.Test.YtdamnoleoakehaaGreatDoorRows
namespace Go.ZR
open Go.Proofs
open Go.Z Go.ZM Go.RowKit
set_option maxRecDepth 100000
noncomputable def code15 : Code := match Tryz.f15.body with | some c => c | none => .skip
set_option maxHeartbeats 4000000 in
theorem vc15 : ∀ (c : Cf), smC c → ∃ (g0 : Nat), g0 ≤ c.nodes.length ∧ (0 : Int) = (↑g0 : Int) ∧ g0 = (0 : Nat) ∧ true = true ∧ ∀ (g : Nat), g ≤ c.nodes.length → True ∧
  sw (decide ((↑g : Int) < (↑c.nodes.length : Int))) (((0 : Int) ≤ (↑g : Int) ∧ (↑g : Int) < (↑c.nodes.length : Int)) ∧ True ∧ ((0 : Nat) + (nodeAt c g).peers.length) * Tryz.prog.types[(3 : Nat)].bytes ≤ (140737488355328 : Nat) ∧
  ∃ (p : Nat), ∃ (g0_1 : Nat), g0_1 ≤ (nodeAt c p).routes.length ∧ (0 : Int) = (↑g0_1 : Int) ∧ g0_1 = (0 : Nat) ∧ true = true ∧ ∀ (g_1 : Nat), g_1 ≤ (nodeAt c p).routes.length →
  True ∧ sw (decide ((↑g_1 : Int) < (↑(nodeAt c g).routes.length : Int))) (((0 : Int) ≤ (↑g_1 : Int) ∧ (↑g_1 : Int) < (↑(nodeAt c g).routes.length : Int)) ∧
  ((0 : Int) ≤ (↑g_1 : Int) ∧ (↑g_1 : Int) < (↑(nodeAt c g).routes.length : Int)) ∧ ((True ∧ ((0 : Nat) + (routeAt (nodeAt c g) g_1).via.length) * Tryz.prog.types[(3 : Nat)].bytes ≤ (140737488355328 : Nat) ∧
  ((True ∧ (g_1 + (1 : Nat)) * Tryz.prog.types[(91 : Nat)].bytes ≤ (140737488355328 : Nat) ∧ True ∧ ∃ (g' : Nat), g' ≤ (nodeAt c p).routes.length ∧ (nodeAt c p).routes.length - g' < (nodeAt c p).routes.length - g_1 ∧
  (IntKind.i64.wrap ((↑g_1 : Int) + (1 : Int)) = (↑g' : Int) ∧ (g_1 + (1 : Nat) = g' ∧ ∀ (i : Nat), i < g_1 + (1 : Nat) → ∀ (j : Nat), j < (2 : Nat) → (bif i.blt g_1 then match j with | (0 : Nat) => D.v (Value.string (routeAt (nodeAt c p) i).realm) | _x => D.ints IntKind.i64 (routeAt (nodeAt c p) i).via else [D.v (Value.string (routeAt (nodeAt c g) g_1).realm), D.ints IntKind.i64 ([] ++ (routeAt (nodeAt c g) g_1).via)].getD ((i - g_1) * Tryz.prog.types[(91 : Nat)].size + j) (D.v undef)) = match j with | (0 : Nat) => D.v (Value.string (routeAt (nodeAt c p) i).realm) | _x => D.ints IntKind.i64 (routeAt (nodeAt c p) i).via) ∧
  true = true) ∧ (some (SV.p (6 : Nat) (0 : Nat)) = some (SV.p (6 : Nat) (0 : Nat)) ∧ some (SV.c (Value.int IntKind.i64 (↑g : Int))) = some (SV.c (Value.int IntKind.i64 (↑g : Int))) ∧
  some (SV.a (3 : Nat)) = some (SV.a (3 : Nat)) ∧ some (SV.p (2 : Nat) (0 : Nat)) = some (SV.p (2 : Nat) (0 : Nat)) ∧ some (SV.p (1 : Nat) (0 : Nat)) = some (SV.p (1 : Nat) (0 : Nat)) ∧
  True) ∧ some (R.blk (88 : Nat) [SV.c (Value.string (nodeAt c g).host), SV.c (Value.string (nodeAt c g).realm), SV.c (Value.bool (nodeAt c g).serves), SV.a (8 : Nat), SV.a (5 : Nat)]) = some (R.blk (88 : Nat) [SV.c (Value.string (nodeAt c g).host), SV.c (Value.string (nodeAt c g).realm), SV.c (Value.bool (nodeAt c g).serves), SV.a (8 : Nat), SV.a (5 : Nat)]) ∧
  some (R.own (3 : Nat) (D.ints IntKind.i64 ([] ++ (nodeAt c g).peers))) = some (R.own (3 : Nat) (D.ints IntKind.i64 ([] ++ (nodeAt c g).peers))) ∧ some R.dead = some R.dead ∧
  some (R.ro (D.recs (2 : Nat) (nodeAt c g).routes.length fun (k j : Nat) => match j with | (0 : Nat) => D.v (Value.string (routeAt (nodeAt c g) k).realm) | _x => D.ints IntKind.i64 (routeAt (nodeAt c g) k).via)) = some (R.ro (D.recs (2 : Nat) (nodeAt c g).routes.length fun (k j : Nat) => match j with | (0 : Nat) => D.v (Value.string (routeAt (nodeAt c g) k).realm) | _x => D.ints IntKind.i64 (routeAt (nodeAt c g) k).via)) ∧
  some (R.ro (D.ints IntKind.i64 (nodeAt c g).peers)) = some (R.ro (D.ints IntKind.i64 (nodeAt c g).peers)) ∧ some (R.own (88 : Nat) (D.recs (5 : Nat) g fun (i j : Nat) => match j with | (0 : Nat) => D.v (Value.string (nodeAt c i).host) | (1 : Nat) => D.v (Value.string (nodeAt c i).realm) | (2 : Nat) => D.v (Value.bool (nodeAt c i).serves) | (3 : Nat) => D.ints IntKind.i64 (nodeAt c i).peers | _x => D.recs (2 : Nat) (nodeAt c i).routes.length fun (k j : Nat) => match j with | (0 : Nat) => D.v (Value.string (routeAt (nodeAt c i) k).realm) | _x => D.ints IntKind.i64 (routeAt (nodeAt c i) k).via)) = some (R.own (88 : Nat) (D.recs (5 : Nat) g fun (i j : Nat) => match j with | (0 : Nat) => D.v (Value.string (nodeAt c i).host) | (1 : Nat) => D.v (Value.string (nodeAt c i).realm) | (2 : Nat) => D.v (Value.bool (nodeAt c i).serves) | (3 : Nat) => D.ints IntKind.i64 (nodeAt c i).peers | _x => D.recs (2 : Nat) (nodeAt c i).routes.length fun (k j : Nat) => match j with | (0 : Nat) => D.v (Value.string (routeAt (nodeAt c i) k).realm) | _x => D.ints IntKind.i64 (routeAt (nodeAt c i) k).via)) ∧
  some (R.blk (24 : Nat) [SV.nil, SV.c (Value.int IntKind.i64 (0 : Int)), SV.c (Value.int IntKind.i64 (0 : Int)), SV.c (Value.int IntKind.i64 (0 : Int)), SV.c (Value.int IntKind.i64 (0 : Int))]) = some (R.blk (24 : Nat) [SV.nil, SV.c (Value.int IntKind.i64 (0 : Int)), SV.c (Value.int IntKind.i64 (0 : Int)), SV.c (Value.int IntKind.i64 (0 : Int)), SV.c (Value.int IntKind.i64 (0 : Int))]) ∧
  some (R.blk (24 : Nat) [SV.a (0 : Nat), SV.c (Value.int IntKind.i64 c.window), SV.c (Value.int IntKind.i64 c.stored), SV.c (Value.int IntKind.i64 c.wait), SV.c (Value.int IntKind.i64 c.beat)]) = some (R.blk (24 : Nat) [SV.a (0 : Nat), SV.c (Value.int IntKind.i64 c.window), SV.c (Value.int IntKind.i64 c.stored), SV.c (Value.int IntKind.i64 c.wait), SV.c (Value.int IntKind.i64 c.beat)]) ∧
  some (R.ro (D.recs (5 : Nat) c.nodes.length fun (i j : Nat) => match j with | (0 : Nat) => D.v (Value.string (nodeAt c i).host) | (1 : Nat) => D.v (Value.string (nodeAt c i).realm) | (2 : Nat) => D.v (Value.bool (nodeAt c i).serves) | (3 : Nat) => D.ints IntKind.i64 (nodeAt c i).peers | _x => D.recs (2 : Nat) (nodeAt c i).routes.length fun (k j : Nat) => match j with | (0 : Nat) => D.v (Value.string (routeAt (nodeAt c i) k).realm) | _x => D.ints IntKind.i64 (routeAt (nodeAt c i) k).via)) = some (R.ro (D.recs (5 : Nat) c.nodes.length fun (i j : Nat) => match j with | (0 : Nat) => D.v (Value.string (nodeAt c i).host) | (1 : Nat) => D.v (Value.string (nodeAt c i).realm) | (2 : Nat) => D.v (Value.bool (nodeAt c i).serves) | (3 : Nat) => D.ints IntKind.i64 (nodeAt c i).peers | _x => D.recs (2 : Nat) (nodeAt c i).routes.length fun (k j : Nat) => match j with | (0 : Nat) => D.v (Value.string (routeAt (nodeAt c i) k).realm) | _x => D.ints IntKind.i64 (routeAt (nodeAt c i) k).via)) ∧
  True) ∧ True) ∧ True) ∧ True) ∧ True) (True ∧ (g + (1 : Nat)) * Tryz.prog.types[(88 : Nat)].bytes ≤ (140737488355328 : Nat) ∧ True ∧ ∃ (g' : Nat), g' ≤ c.nodes.length ∧
  c.nodes.length - g' < c.nodes.length - g ∧ (IntKind.i64.wrap ((↑g : Int) + (1 : Int)) = (↑g' : Int) ∧ (g + (1 : Nat) = g' ∧ ∀ (i : Nat), i < g + (1 : Nat) →
  ∀ (j : Nat), j < (5 : Nat) → (bif i.blt g then match j with | (0 : Nat) => D.v (Value.string (nodeAt c i).host) | (1 : Nat) => D.v (Value.string (nodeAt c i).realm) | (2 : Nat) => D.v (Value.bool (nodeAt c i).serves) | (3 : Nat) => D.ints IntKind.i64 (nodeAt c i).peers | _x => D.recs (2 : Nat) (nodeAt c i).routes.length fun (k j : Nat) => match j with | (0 : Nat) => D.v (Value.string (routeAt (nodeAt c i) k).realm) | _x => D.ints IntKind.i64 (routeAt (nodeAt c i) k).via else [D.v (Value.string (nodeAt c g).host), D.v (Value.string (nodeAt c g).realm), D.v (Value.bool (nodeAt c g).serves), D.ints IntKind.i64 ([] ++ (nodeAt c g).peers), D.recs (2 : Nat) g_1 fun (k j : Nat) => match j with | (0 : Nat) => D.v (Value.string (routeAt (nodeAt c p) k).realm) | _x => D.ints IntKind.i64 (routeAt (nodeAt c p) k).via].getD ((i - g) * Tryz.prog.types[(88 : Nat)].size + j) (D.v undef)) = match j with | (0 : Nat) => D.v (Value.string (nodeAt c i).host) | (1 : Nat) => D.v (Value.string (nodeAt c i).realm) | (2 : Nat) => D.v (Value.bool (nodeAt c i).serves) | (3 : Nat) => D.ints IntKind.i64 (nodeAt c i).peers | _x => D.recs (2 : Nat) (nodeAt c i).routes.length fun (k j : Nat) => match j with | (0 : Nat) => D.v (Value.string (routeAt (nodeAt c i) k).realm) | _x => D.ints IntKind.i64 (routeAt (nodeAt c i) k).via) ∧
  true = true) ∧ (some (SV.p (2 : Nat) (0 : Nat)) = some (SV.p (2 : Nat) (0 : Nat)) ∧ some (SV.p (1 : Nat) (0 : Nat)) = some (SV.p (1 : Nat) (0 : Nat)) ∧
  True) ∧ some (R.blk (24 : Nat) [SV.nil, SV.c (Value.int IntKind.i64 (0 : Int)), SV.c (Value.int IntKind.i64 (0 : Int)), SV.c (Value.int IntKind.i64 (0 : Int)), SV.c (Value.int IntKind.i64 (0 : Int))]) = some (R.blk (24 : Nat) [SV.nil, SV.c (Value.int IntKind.i64 (0 : Int)), SV.c (Value.int IntKind.i64 (0 : Int)), SV.c (Value.int IntKind.i64 (0 : Int)), SV.c (Value.int IntKind.i64 (0 : Int))]) ∧
  some (R.blk (24 : Nat) [SV.a (0 : Nat), SV.c (Value.int IntKind.i64 c.window), SV.c (Value.int IntKind.i64 c.stored), SV.c (Value.int IntKind.i64 c.wait), SV.c (Value.int IntKind.i64 c.beat)]) = some (R.blk (24 : Nat) [SV.a (0 : Nat), SV.c (Value.int IntKind.i64 c.window), SV.c (Value.int IntKind.i64 c.stored), SV.c (Value.int IntKind.i64 c.wait), SV.c (Value.int IntKind.i64 c.beat)]) ∧
  some (R.ro (D.recs (5 : Nat) c.nodes.length fun (i j : Nat) => match j with | (0 : Nat) => D.v (Value.string (nodeAt c i).host) | (1 : Nat) => D.v (Value.string (nodeAt c i).realm) | (2 : Nat) => D.v (Value.bool (nodeAt c i).serves) | (3 : Nat) => D.ints IntKind.i64 (nodeAt c i).peers | _x => D.recs (2 : Nat) (nodeAt c i).routes.length fun (k j : Nat) => match j with | (0 : Nat) => D.v (Value.string (routeAt (nodeAt c i) k).realm) | _x => D.ints IntKind.i64 (routeAt (nodeAt c i) k).via)) = some (R.ro (D.recs (5 : Nat) c.nodes.length fun (i j : Nat) => match j with | (0 : Nat) => D.v (Value.string (nodeAt c i).host) | (1 : Nat) => D.v (Value.string (nodeAt c i).realm) | (2 : Nat) => D.v (Value.bool (nodeAt c i).serves) | (3 : Nat) => D.ints IntKind.i64 (nodeAt c i).peers | _x => D.recs (2 : Nat) (nodeAt c i).routes.length fun (k j : Nat) => match j with | (0 : Nat) => D.v (Value.string (routeAt (nodeAt c i) k).realm) | _x => D.ints IntKind.i64 (routeAt (nodeAt c i) k).via)) ∧
  True)) ((g = (cfOf [cfO c]).nodes.length ∧ ∀ (i : Nat), i < g → ∀ (j : Nat), j < (5 : Nat) → (match j with | (0 : Nat) => D.v (Value.string (nodeAt c i).host) | (1 : Nat) => D.v (Value.string (nodeAt c i).realm) | (2 : Nat) => D.v (Value.bool (nodeAt c i).serves) | (3 : Nat) => D.ints IntKind.i64 (nodeAt c i).peers | _x => D.recs (2 : Nat) (nodeAt c i).routes.length fun (k j : Nat) => match j with | (0 : Nat) => D.v (Value.string (routeAt (nodeAt c i) k).realm) | _x => D.ints IntKind.i64 (routeAt (nodeAt c i) k).via) = match j with | (0 : Nat) => D.v (Value.string (nodeAt (cfOf [cfO c]) i).host) | (1 : Nat) => D.v (Value.string (nodeAt (cfOf [cfO c]) i).realm) | (2 : Nat) => D.v (Value.bool (nodeAt (cfOf [cfO c]) i).serves) | (3 : Nat) => D.ints IntKind.i64 (nodeAt (cfOf [cfO c]) i).peers | _x => D.recs (2 : Nat) (nodeAt (cfOf [cfO c]) i).routes.length fun (k j : Nat) => match j with | (0 : Nat) => D.v (Value.string (routeAt (nodeAt (cfOf [cfO c]) i) k).realm) | _x => D.ints IntKind.i64 (routeAt (nodeAt (cfOf [cfO c]) i) k).via) ∧
  c.window = (cfOf [cfO c]).window ∧ c.stored = (cfOf [cfO c]).stored ∧ c.wait = (cfOf [cfO c]).wait ∧ c.beat = (cfOf [cfO c]).beat ∧ true = true) := by
  intro c h
  rw [cfOf_cf]
  have e3 : (Tryz.prog.types[(3 : Nat)]).bytes = 8 := by kernel_rfl
  have e91 : (Tryz.prog.types[(91 : Nat)]).bytes = 40 := by kernel_rfl
  have e88 : (Tryz.prog.types[(88 : Nat)]).bytes = 88 := by kernel_rfl
  have s91 : (Tryz.prog.types[(91 : Nat)]).size = 2 := by kernel_rfl
  have s88 : (Tryz.prog.types[(88 : Nat)]).size = 5 := by kernel_rfl
  have hn := h.1
  refine ⟨0, Nat.zero_le _, rfl, rfl, rfl, fun g hg => tsw_mk (fun hlt => ?_) (fun hge => ?_)⟩
  · replace hlt : g < c.nodes.length := by have := of_decide_eq_true hlt; omega
    obtain ⟨z1, z2, z3, z4, z5⟩ := h.2 (nodeAt c g) (getD_mem hlt)
    refine ⟨⟨by omega, by omega⟩, trivial, by rw [e3]; omega, g, 0, Nat.zero_le _, rfl, rfl, rfl, fun k hk => tsw_mk (fun hkl => ?_) (fun hkg => ?_)⟩
    · replace hkl : k < (nodeAt c g).routes.length := by have := of_decide_eq_true hkl; omega
      obtain ⟨y1, y2⟩ := z5 (routeAt (nodeAt c g) k) (getD_mem hkl)
      refine ⟨⟨by omega, by omega⟩, ⟨by omega, by omega⟩, ⟨⟨trivial, by rw [e3]; omega, ⟨⟨trivial, by rw [e91]; omega, trivial, k + 1, hkl, by omega, ⟨by rw [IntKind.wrap_i64]; omega, ⟨rfl, fun i hi j hj => ?_⟩, rfl⟩, ?_⟩, trivial⟩, trivial⟩, trivial⟩, trivial⟩
      · rcases Nat.lt_or_ge i k with h' | h'
        · rw [show i.blt k = true by simpa [Nat.blt_eq] using h']
          rfl
        · obtain rfl : i = k := by omega
          rw [show i.blt i = false by rw [Bool.eq_false_iff, Ne, Nat.blt_eq]; omega, s91, Nat.sub_self]
          match j, hj with
          | 0, _ => rfl
          | 1, _ => rfl
      all_goals repeat' (first | exact trivial | exact rfl | refine And.intro ?_ ?_)
    · obtain rfl : k = (nodeAt c g).routes.length := by have := of_decide_eq_false hkg; omega
      refine ⟨trivial, by rw [e88]; omega, trivial, g + 1, hlt, by omega, ⟨by rw [IntKind.wrap_i64]; omega, ⟨rfl, fun i hi j hj => ?_⟩, rfl⟩, ?_⟩
      · rcases Nat.lt_or_ge i g with h' | h'
        · rw [show i.blt g = true by simpa [Nat.blt_eq] using h']
          rfl
        · obtain rfl : i = g := by omega
          rw [show i.blt i = false by rw [Bool.eq_false_iff, Ne, Nat.blt_eq]; omega, s88, Nat.sub_self]
          match j, hj with
          | 0, _ => rfl
          | 1, _ => rfl
          | 2, _ => rfl
          | 3, _ => rfl
          | 4, _ => rfl
      all_goals repeat' (first | exact trivial | exact rfl | refine And.intro ?_ ?_)
  · obtain rfl : g = c.nodes.length := by have := of_decide_eq_false hge; omega
    exact ⟨⟨rfl, fun _ _ _ _ => rfl⟩, rfl, rfl, rfl, rfl, rfl⟩
set_option maxRecDepth 100000 in
theorem ok15 : FnIs Tryz.prog 15 ownC := by
  refine fnIs (C := (ctrs c0)) (by kernel_rfl) c0_ok Tryz.func15 (code := code15) (by kernel_rfl) (by kernel_rfl) ?_
  rintro a ⟨c, rfl, h⟩
  exact ⟨anns [(3, ownAnn c), (9, .fam Nat (ownRAnn c))] (dr := [(3, [0]), (9, [0, 8, 9, 10, 11, 12, 15, 16, 17, 18, 19, 20, 21, 22, 23, 24])]), kcast (vc15 c h) (by kernel_rfl)⟩

end Go.ZR

set_option maxRecDepth 100000
namespace Go.ZM
open Go.Z Go.ZR
def Fine (c : Cf) (me boot : Int) : Prop := 0 ≤ me ∧ me < c.nodes.length ∧ 0 ≤ boot ∧ boot ≤ 1099511627776
end Go.ZM
namespace Go.ZR
open Go.Z Go.ZM Go.Proofs
def nilA : O := .d (.v (.pointer none))
def argsC (Q : Cf → Int → Int → Prop) (a : List O) : Prop := ∃ c me boot, a = [cfO c, iO .i64 me, iO .i64 boot] ∧ smC c ∧ Q c me boot
def newB : Ctr := nC 3 false (argsC fun c _ _ => soundB c = false) fun _ => [nilA, iO .i64 2]
def newF : Ctr := nC 3 false (argsC fun c me boot => soundB c = true ∧ ¬ Fine c me boot) fun _ => [nilA, iO .i64 1]
def newG : Ctr := nC 3 false (argsC fun c me boot => soundB c = true ∧ Fine c me boot) fun _ => [.ptr 105 [.any, .any, .any, .any, .any, .any, .any, .any, .any, .any, .any, .any, .any, .any, .any, .any, .any, .any, .any, .any, .any, .any, .any], iO .i64 0]
def hostCell (c : Cf) (i _ : Nat) : D := .v (.string (nodeAt c i).host)
def newRAnn (d : Nd) : LoopAnn where
  γ := Nat
  pre := fun k => k ≤ d.routes.length
  μ := fun k => d.routes.length - k
  items := fun k => [(74, .c (iO .i64 (k : Int))), (72, .ow (.recs 2 d.routes.length (rtCell d)))]
def newHAnn (c : Cf) : LoopAnn where
  γ := Nat
  pre := fun k => k ≤ c.nodes.length
  μ := fun k => c.nodes.length - k
  items := fun k => [(98, .c (iO .i64 (k : Int))), (8, .blk [.same, .same, .same, .same, .same, .same, .same, .same, .same, .same, .same, .same, .o (.own 9 (.recs 1 k (hostCell c))), .same, .same, .same, .same, .same, .same, .same, .same, .same, .same])]
def newPAnn (d : Nd) : LoopAnn where
  γ := Nat
  pre := fun k => k ≤ d.peers.length
  μ := fun k => d.peers.length - k
  items := fun k => [(120, .c (iO .i64 (k : Int))), (8, .mu 13)]
noncomputable def b3 : List (Nat × Ctr) := [(14, soundC)]
theorem b3_ok : COk Tryz.prog (ctrs b3) := cok_cons ok14g cok_nil
end Go.ZR
