/- RouteOver: the walk -/
import Derived.Test.YtgnfpcjndhnglaaRows
import Derived.Test.YtgnfpcjndhnglaaB14
namespace Go.YR
open Go.Proofs
open Go.Y Go.YM Go.RowKit
def restF (l : List Int) (to : Int) (k : Nat) : List Int := (l.take k).filter fun x => !decide (x = to)
def overAnn (up : List Int) : LoopAnn where
  γ := Nat × List Int × List Int
  pre := fun g => g.1 + g.2.1.length ≤ up.length ∧ g.2.2.length = g.1 ∧ ∀ x, x ∈ g.2.2 → x ∉ g.2.1
  μ := fun g => 60 - g.1
  items := fun g => [(13, .c (iO .i64 (g.1 : Int))), (11, .c (.own 3 (.ints .i64 g.2.1))), (12, .c (.own 3 (.ints .i64 g.2.2)))]
def restAnn : LoopF := .fam (List Int × Int) fun p =>
  { γ := Nat, pre := fun k => k ≤ p.1.length, μ := fun k => p.1.length - k, items := fun k => [(17, .c (iO .i64 (k : Int))), (16, .c (.own 3 (.ints .i64 (restF p.1 p.2 k))))] }
theorem bytes3 : Try.prog.types[(3 : Nat)].bytes = 8 := by kernel_rfl
theorem inF_mem {l : List Int} {x : Int} (h : inF l x = true) : x ∈ l := by
  have h0 : 0 ≤ idxP (fun y => decide (x = y)) l := of_decide_eq_true h
  have h1 := (idx_spec (0 : Int) h0).1
  have hr := idx_range (p := fun y => decide (x = y)) (l := l)
  have : x = l.getD (idxP (fun y => decide (x = y)) l).toNat 0 := of_decide_eq_true h1
  rw [this]
  exact getD_mem (by omega)
theorem inF_not {l : List Int} {x : Int} (h : inF l x = false) : x ∉ l := by
  have h0 : ¬ 0 ≤ idxP (fun y => decide (x = y)) l := of_decide_eq_false h
  exact fun hm => absurd rfl (of_decide_eq_false (idx_none h0 x hm))
theorem rest_step {l : List Int} {to : Int} {k : Nat} (h : k < l.length) : (l.take (k + 1)).filter (fun x => !decide (x = to)) = (l.take k).filter (fun x => !decide (x = to)) ++ if (!decide (l.getD k 0 = to)) = true then [l.getD k 0] else [] := by
  rw [List.take_succ_eq_append_getElem h, List.filter_append, show l.getD k 0 = l[k] by simp [List.getD, List.getElem?_eq_getElem h], List.filter_cons, List.filter_nil]
theorem rest_len {l : List Int} {to : Int} (h : to ∈ l) : (l.filter fun x => !decide (x = to)).length < l.length := by
  rw [List.length_filter_lt_length_iff_exists]
  exact ⟨to, h, by simp⟩
noncomputable def code5 : Code := match Try.f5.body with | some c => c | none => .skip
theorem vc5 : ∀ (n : NdR) (names : List ByteArray) (up : List Int) (m : MsgR), let y := lightA [O.agg [O.d (D.v (Value.string n.host)), O.d (D.v (Value.string n.realm)), O.d (D.v (Value.bool n.serves)), O.d (D.ints IntKind.i64 n.peers), O.d (D.recs (2 : Nat) n.routes.length (rtCell n.routes))], O.d (D.recs (1 : Nat) names.length (strCell names)), O.d (D.ints IntKind.i64 up), O.agg [O.d (D.v (Value.bool m.b0)), O.d (D.v (Value.bool m.b1)), O.d (D.v (Value.bool m.b2)), O.d (D.v (Value.bool m.b3)), O.d (D.v (Value.int IntKind.u32 m.n0)), O.d (D.v (Value.int IntKind.u32 m.n1)), O.d (D.v (Value.int IntKind.u32 m.n2)), O.d (D.v (Value.int IntKind.u32 m.n3)), O.d (D.recs (5 : Nat) m.avps.length (avpCell m.avps))]];
  ∀ (fr : Int), small n.peers.length ∧ small names.length ∧ small up.length ∧ okAvps m.avps → okNd n → ([] : List O) = [] ∧ ((!true) = false → (∃ (n_1 : NdR), ∃ (names_1 : List ByteArray), ∃ (up_1 : List Int), ∃ (m_1 : MsgR), [O.agg [O.d (D.v (Value.string n.host)), O.d (D.v (Value.string n.realm)), O.d (D.v (Value.bool n.serves)), O.d (D.ints IntKind.i64 n.peers), O.d (D.recs (2 : Nat) n.routes.length (rtCell n.routes))], O.d (D.recs (1 : Nat) names.length (strCell names)), O.d (D.ints IntKind.i64 up), O.agg [O.d (D.v (Value.bool m.b0)), O.d (D.v (Value.bool m.b1)), O.d (D.v (Value.bool m.b2)), O.d (D.v (Value.bool m.b3)), O.d (D.v (Value.int IntKind.u32 m.n0)), O.d (D.v (Value.int IntKind.u32 m.n1)), O.d (D.v (Value.int IntKind.u32 m.n2)), O.d (D.v (Value.int IntKind.u32 m.n3)), O.d (D.recs (5 : Nat) m.avps.length (avpCell m.avps))]] = [O.agg [O.d (D.v (Value.string n_1.host)), O.d (D.v (Value.string n_1.realm)), O.d (D.v (Value.bool n_1.serves)), O.d (D.ints IntKind.i64 n_1.peers), O.d (D.recs (2 : Nat) n_1.routes.length (rtCell n_1.routes))], O.d (D.recs (1 : Nat) names_1.length (strCell names_1)), O.d (D.ints IntKind.i64 up_1), O.agg [O.d (D.v (Value.bool m_1.b0)), O.d (D.v (Value.bool m_1.b1)), O.d (D.v (Value.bool m_1.b2)), O.d (D.v (Value.bool m_1.b3)), O.d (D.v (Value.int IntKind.u32 m_1.n0)), O.d (D.v (Value.int IntKind.u32 m_1.n1)), O.d (D.v (Value.int IntKind.u32 m_1.n2)), O.d (D.v (Value.int IntKind.u32 m_1.n3)), O.d (D.recs (5 : Nat) m_1.avps.length (avpCell m_1.avps))]]) ∧
  ((!y) = true → ([] : List O) = [] ∧ true = true ∧ (true && true) = true) ∧ ((!y) = false → True ∧ ((0 : Nat) + up.length) * Try.prog.types[(3 : Nat)].bytes ≤ (140737488355328 : Nat) ∧
  ∃ (g0 : Nat × List Int × List Int), (g0.fst + g0.snd.fst.length ≤ up.length ∧ g0.snd.snd.length = g0.fst ∧ ∀ (x : Int), x ∈ g0.snd.snd → ¬x ∈ g0.snd.fst) ∧
  (0 : Int) = (↑g0.fst : Int) ∧ [] ++ up = g0.snd.fst ∧ g0.snd.snd = [] ∧ (!false && true && true) = true ∧ ∀ (g : Nat × List Int × List Int), let y_1 := pickA [O.agg [O.d (D.v (Value.string n.host)), O.d (D.v (Value.string n.realm)), O.d (D.v (Value.bool n.serves)), O.d (D.ints IntKind.i64 n.peers), O.d (D.recs (2 : Nat) n.routes.length (rtCell n.routes))], O.d (D.recs (1 : Nat) names.length (strCell names)), O.d (D.ints IntKind.i64 g.snd.fst), O.agg [O.d (D.v (Value.bool m.b0)), O.d (D.v (Value.bool m.b1)), O.d (D.v (Value.bool m.b2)), O.d (D.v (Value.bool m.b3)), O.d (D.v (Value.int IntKind.u32 m.n0)), O.d (D.v (Value.int IntKind.u32 m.n1)), O.d (D.v (Value.int IntKind.u32 m.n2)), O.d (D.v (Value.int IntKind.u32 m.n3)), O.d (D.recs (5 : Nat) m.avps.length (avpCell m.avps))], O.d (D.v (Value.int IntKind.i64 fr))];
  (g.fst + g.snd.fst.length ≤ up.length ∧ g.snd.snd.length = g.fst ∧ ∀ (x : Int), x ∈ g.snd.snd → ¬x ∈ g.snd.fst) → True ∧ (decide ((↑g.fst : Int) < (60 : Int)) = true →
  (∃ (n_1 : NdR), ∃ (names_1 : List ByteArray), ∃ (up_1 : List Int), ∃ (m_1 : MsgR), ∃ (fr_1 : Int), [O.agg [O.d (D.v (Value.string n.host)), O.d (D.v (Value.string n.realm)), O.d (D.v (Value.bool n.serves)), O.d (D.ints IntKind.i64 n.peers), O.d (D.recs (2 : Nat) n.routes.length (rtCell n.routes))], O.d (D.recs (1 : Nat) names.length (strCell names)), O.d (D.ints IntKind.i64 g.snd.fst), O.agg [O.d (D.v (Value.bool m.b0)), O.d (D.v (Value.bool m.b1)), O.d (D.v (Value.bool m.b2)), O.d (D.v (Value.bool m.b3)), O.d (D.v (Value.int IntKind.u32 m.n0)), O.d (D.v (Value.int IntKind.u32 m.n1)), O.d (D.v (Value.int IntKind.u32 m.n2)), O.d (D.v (Value.int IntKind.u32 m.n3)), O.d (D.recs (5 : Nat) m.avps.length (avpCell m.avps))], O.d (D.v (Value.int IntKind.i64 fr))] = [O.agg [O.d (D.v (Value.string n_1.host)), O.d (D.v (Value.string n_1.realm)), O.d (D.v (Value.bool n_1.serves)), O.d (D.ints IntKind.i64 n_1.peers), O.d (D.recs (2 : Nat) n_1.routes.length (rtCell n_1.routes))], O.d (D.recs (1 : Nat) names_1.length (strCell names_1)), O.d (D.ints IntKind.i64 up_1), O.agg [O.d (D.v (Value.bool m_1.b0)), O.d (D.v (Value.bool m_1.b1)), O.d (D.v (Value.bool m_1.b2)), O.d (D.v (Value.bool m_1.b3)), O.d (D.v (Value.int IntKind.u32 m_1.n0)), O.d (D.v (Value.int IntKind.u32 m_1.n1)), O.d (D.v (Value.int IntKind.u32 m_1.n2)), O.d (D.v (Value.int IntKind.u32 m_1.n3)), O.d (D.recs (5 : Nat) m_1.avps.length (avpCell m_1.avps))], O.d (D.v (Value.int IntKind.i64 fr_1))] ∧
  (small n_1.peers.length ∧ small names_1.length ∧ small up_1.length ∧ okAvps m_1.avps) ∧ okNd n_1) ∧ True ∧ ((!decide (y_1.snd = (0 : Int))) = false → True ∧
  (decide (y_1.fst = (-1 : Int)) = true → true = true ∧ (true && true) = true) ∧ (decide (y_1.fst = (-1 : Int)) = false → (∃ (l : List Int), ∃ (x : Int), [O.d (D.ints IntKind.i64 g.snd.snd), O.d (D.v (Value.int IntKind.i64 y_1.fst))] = [O.d (D.ints IntKind.i64 l), O.d (D.v (Value.int IntKind.i64 x))] ∧
  small l.length) ∧ (inF (vl (D.ints IntKind.i64 g.snd.snd)) (vi (D.v (Value.int IntKind.i64 y_1.fst))) = true → false = true ∧ (true && true) = true) ∧ (inF (vl (D.ints IntKind.i64 g.snd.snd)) (vi (D.v (Value.int IntKind.i64 y_1.fst))) = false →
  True ∧ (g.snd.snd.length + (1 : Nat)) * Try.prog.types[(3 : Nat)].bytes ≤ (140737488355328 : Nat) ∧ ∃ (p : List Int × Int), ∃ (g0_1 : Nat), g0_1 ≤ p.fst.length ∧
  (0 : Int) = (↑g0_1 : Int) ∧ List.filter (fun (x : Int) => !decide (x = p.snd)) (List.take g0_1 p.fst) = [] ∧ (true && true) = true ∧ ∀ (g_1 : Nat), g_1 ≤ p.fst.length →
  True ∧ (decide ((↑g_1 : Int) < (↑g.snd.fst.length : Int)) = true → ((0 : Int) ≤ (↑g_1 : Int) ∧ (↑g_1 : Int) < (↑g.snd.fst.length : Int)) ∧ True ∧ ((!decide (g.snd.fst.getD (↑g_1 : Int).toNat (0 : Int) = y_1.fst)) = true →
  ((0 : Int) ≤ (↑g_1 : Int) ∧ (↑g_1 : Int) < (↑g.snd.fst.length : Int)) ∧ True ∧ ((List.filter (fun (x : Int) => !decide (x = p.snd)) (List.take g_1 p.fst)).length + (1 : Nat)) * Try.prog.types[(3 : Nat)].bytes ≤ (140737488355328 : Nat) ∧
  True ∧ ∃ (g' : Nat), g' ≤ p.fst.length ∧ p.fst.length - g' < p.fst.length - g_1 ∧ (IntKind.i64.wrap ((↑g_1 : Int) + (1 : Int)) = (↑g' : Int) ∧ List.filter (fun (x : Int) => !decide (x = p.snd)) (List.take g_1 p.fst) ++ [g.snd.fst.getD (↑g_1 : Int).toNat (0 : Int)] = List.filter (fun (x : Int) => !decide (x = p.snd)) (List.take g' p.fst) ∧
  (!false && true && true && ((Nat.ble (13 : Nat) (15 : Nat) || false) && true)) = true) ∧ (some (SV.a (12 : Nat)) = some (SV.a (12 : Nat)) ∧ some (SV.a (12 : Nat)) = some (SV.a (12 : Nat)) ∧
  some (SV.a (11 : Nat)) = some (SV.a (11 : Nat)) ∧ some (SV.c (Value.int IntKind.i64 y_1.fst)) = some (SV.c (Value.int IntKind.i64 y_1.fst)) ∧ some (SV.a (10 : Nat)) = some (SV.a (10 : Nat)) ∧
  some (SV.c (Value.bool (inF (vl (D.ints IntKind.i64 g.snd.snd)) (vi (D.v (Value.int IntKind.i64 y_1.fst)))))) = some (SV.c (Value.bool (inF (vl (D.ints IntKind.i64 g.snd.snd)) (vi (D.v (Value.int IntKind.i64 y_1.fst)))))) ∧
  some (SV.c (Value.int IntKind.i64 y_1.fst)) = some (SV.c (Value.int IntKind.i64 y_1.fst)) ∧ some (SV.a (10 : Nat)) = some (SV.a (10 : Nat)) ∧ some (SV.c (Value.bool (decide (y_1.fst = (-1 : Int))))) = some (SV.c (Value.bool (decide (y_1.fst = (-1 : Int))))) ∧
  some (SV.c (Value.bool (decide (y_1.fst = (-1 : Int))))) = some (SV.c (Value.bool (decide (y_1.fst = (-1 : Int))))) ∧ some (SV.c (Value.int IntKind.i64 y_1.fst)) = some (SV.c (Value.int IntKind.i64 y_1.fst)) ∧
  some (SV.b false) = some (SV.b false) ∧ some (SV.c (Value.bool !decide (y_1.snd = (0 : Int)))) = some (SV.c (Value.bool !decide (y_1.snd = (0 : Int)))) ∧
  some (SV.c (Value.int IntKind.i64 y_1.snd)) = some (SV.c (Value.int IntKind.i64 y_1.snd)) ∧ some (SV.c (Value.int IntKind.i64 y_1.snd)) = some (SV.c (Value.int IntKind.i64 y_1.snd)) ∧
  some (SV.c (Value.int IntKind.i64 y_1.fst)) = some (SV.c (Value.int IntKind.i64 y_1.fst)) ∧ some (SV.c (Value.int IntKind.i64 y_1.snd)) = some (SV.c (Value.int IntKind.i64 y_1.snd)) ∧
  some (SV.c (Value.int IntKind.i64 y_1.fst)) = some (SV.c (Value.int IntKind.i64 y_1.fst)) ∧ some (SV.tup [SV.c (Value.int IntKind.i64 y_1.fst), SV.c (Value.int IntKind.i64 y_1.snd)]) = some (SV.tup [SV.c (Value.int IntKind.i64 y_1.fst), SV.c (Value.int IntKind.i64 y_1.snd)]) ∧
  some (SV.tup [SV.c (Value.int IntKind.i64 y_1.fst), SV.c (Value.int IntKind.i64 y_1.snd)]) = some (SV.tup [SV.c (Value.int IntKind.i64 y_1.fst), SV.c (Value.int IntKind.i64 y_1.snd)]) ∧
  some (SV.c (Value.int IntKind.i64 fr)) = some (SV.c (Value.int IntKind.i64 fr)) ∧ some (SV.agg [SV.c (Value.bool m.b0), SV.c (Value.bool m.b1), SV.c (Value.bool m.b2), SV.c (Value.bool m.b3), SV.c (Value.int IntKind.u32 m.n0), SV.c (Value.int IntKind.u32 m.n1), SV.c (Value.int IntKind.u32 m.n2), SV.c (Value.int IntKind.u32 m.n3), SV.a (4 : Nat)]) = some (SV.agg [SV.c (Value.bool m.b0), SV.c (Value.bool m.b1), SV.c (Value.bool m.b2), SV.c (Value.bool m.b3), SV.c (Value.int IntKind.u32 m.n0), SV.c (Value.int IntKind.u32 m.n1), SV.c (Value.int IntKind.u32 m.n2), SV.c (Value.int IntKind.u32 m.n3), SV.a (4 : Nat)]) ∧
  some (SV.a (9 : Nat)) = some (SV.a (9 : Nat)) ∧ some (SV.a (2 : Nat)) = some (SV.a (2 : Nat)) ∧ some (SV.agg [SV.c (Value.string n.host), SV.c (Value.string n.realm), SV.c (Value.bool n.serves), SV.a (0 : Nat), SV.a (1 : Nat)]) = some (SV.agg [SV.c (Value.string n.host), SV.c (Value.string n.realm), SV.c (Value.bool n.serves), SV.a (0 : Nat), SV.a (1 : Nat)]) ∧
  some (SV.c (Value.bool (decide ((↑g.fst : Int) < (60 : Int))))) = some (SV.c (Value.bool (decide ((↑g.fst : Int) < (60 : Int))))) ∧ some (SV.c (Value.int IntKind.i64 (↑g.fst : Int))) = some (SV.c (Value.int IntKind.i64 (↑g.fst : Int))) ∧
  some (SV.c (Value.int IntKind.i64 (↑g.fst : Int))) = some (SV.c (Value.int IntKind.i64 (↑g.fst : Int))) ∧ some (SV.a (9 : Nat)) = some (SV.a (9 : Nat)) ∧
  some (SV.a (8 : Nat)) = some (SV.a (8 : Nat)) ∧ some (SV.a (3 : Nat)) = some (SV.a (3 : Nat)) ∧ some (SV.a (7 : Nat)) = some (SV.a (7 : Nat)) ∧ some (SV.c (Value.bool !y)) = some (SV.c (Value.bool !y)) ∧
  some (SV.c (Value.bool !y)) = some (SV.c (Value.bool !y)) ∧ some (SV.c (Value.bool y)) = some (SV.c (Value.bool y)) ∧ some (SV.agg [SV.c (Value.bool m.b0), SV.c (Value.bool m.b1), SV.c (Value.bool m.b2), SV.c (Value.bool m.b3), SV.c (Value.int IntKind.u32 m.n0), SV.c (Value.int IntKind.u32 m.n1), SV.c (Value.int IntKind.u32 m.n2), SV.c (Value.int IntKind.u32 m.n3), SV.a (4 : Nat)]) = some (SV.agg [SV.c (Value.bool m.b0), SV.c (Value.bool m.b1), SV.c (Value.bool m.b2), SV.c (Value.bool m.b3), SV.c (Value.int IntKind.u32 m.n0), SV.c (Value.int IntKind.u32 m.n1), SV.c (Value.int IntKind.u32 m.n2), SV.c (Value.int IntKind.u32 m.n3), SV.a (4 : Nat)]) ∧
  some (SV.a (3 : Nat)) = some (SV.a (3 : Nat)) ∧ some (SV.a (2 : Nat)) = some (SV.a (2 : Nat)) ∧ some (SV.agg [SV.c (Value.string n.host), SV.c (Value.string n.realm), SV.c (Value.bool n.serves), SV.a (0 : Nat), SV.a (1 : Nat)]) = some (SV.agg [SV.c (Value.string n.host), SV.c (Value.string n.realm), SV.c (Value.bool n.serves), SV.a (0 : Nat), SV.a (1 : Nat)]) ∧
  some (SV.b false) = some (SV.b false) ∧ some (SV.c (Value.bool !true)) = some (SV.c (Value.bool !true)) ∧ some (SV.c (Value.bool true)) = some (SV.c (Value.bool true)) ∧
  some (SV.p (6 : Nat) (0 : Nat)) = some (SV.p (6 : Nat) (0 : Nat)) ∧ some (SV.p (5 : Nat) (0 : Nat)) = some (SV.p (5 : Nat) (0 : Nat)) ∧ some (SV.agg [SV.c (Value.string n.host), SV.c (Value.string n.realm), SV.c (Value.bool n.serves), SV.a (0 : Nat), SV.a (1 : Nat)]) = some (SV.agg [SV.c (Value.string n.host), SV.c (Value.string n.realm), SV.c (Value.bool n.serves), SV.a (0 : Nat), SV.a (1 : Nat)]) ∧
  some (SV.a (2 : Nat)) = some (SV.a (2 : Nat)) ∧ some (SV.a (3 : Nat)) = some (SV.a (3 : Nat)) ∧ some (SV.agg [SV.c (Value.bool m.b0), SV.c (Value.bool m.b1), SV.c (Value.bool m.b2), SV.c (Value.bool m.b3), SV.c (Value.int IntKind.u32 m.n0), SV.c (Value.int IntKind.u32 m.n1), SV.c (Value.int IntKind.u32 m.n2), SV.c (Value.int IntKind.u32 m.n3), SV.a (4 : Nat)]) = some (SV.agg [SV.c (Value.bool m.b0), SV.c (Value.bool m.b1), SV.c (Value.bool m.b2), SV.c (Value.bool m.b3), SV.c (Value.int IntKind.u32 m.n0), SV.c (Value.int IntKind.u32 m.n1), SV.c (Value.int IntKind.u32 m.n2), SV.c (Value.int IntKind.u32 m.n3), SV.a (4 : Nat)]) ∧
  some (SV.c (Value.int IntKind.i64 fr)) = some (SV.c (Value.int IntKind.i64 fr)) ∧ True) ∧ some (R.own (3 : Nat) (D.ints IntKind.i64 (g.snd.snd ++ [y_1.fst]))) = some (R.own (3 : Nat) (D.ints IntKind.i64 (g.snd.snd ++ [y_1.fst]))) ∧
  some R.dead = some R.dead ∧ some (R.own (3 : Nat) (D.ints IntKind.i64 [y_1.fst])) = some (R.own (3 : Nat) (D.ints IntKind.i64 [y_1.fst])) ∧ some (R.own (3 : Nat) (D.ints IntKind.i64 g.snd.fst)) = some (R.own (3 : Nat) (D.ints IntKind.i64 g.snd.fst)) ∧
  some R.dead = some R.dead ∧ some R.dead = some R.dead ∧ some (R.blk (30 : Nat) [SV.c (Value.bool m.b0), SV.c (Value.bool m.b1), SV.c (Value.bool m.b2), SV.c (Value.bool m.b3), SV.c (Value.int IntKind.u32 m.n0), SV.c (Value.int IntKind.u32 m.n1), SV.c (Value.int IntKind.u32 m.n2), SV.c (Value.int IntKind.u32 m.n3), SV.a (4 : Nat)]) = some (R.blk (30 : Nat) [SV.c (Value.bool m.b0), SV.c (Value.bool m.b1), SV.c (Value.bool m.b2), SV.c (Value.bool m.b3), SV.c (Value.int IntKind.u32 m.n0), SV.c (Value.int IntKind.u32 m.n1), SV.c (Value.int IntKind.u32 m.n2), SV.c (Value.int IntKind.u32 m.n3), SV.a (4 : Nat)]) ∧
  some (R.blk (25 : Nat) [SV.c (Value.string n.host), SV.c (Value.string n.realm), SV.c (Value.bool n.serves), SV.a (0 : Nat), SV.a (1 : Nat)]) = some (R.blk (25 : Nat) [SV.c (Value.string n.host), SV.c (Value.string n.realm), SV.c (Value.bool n.serves), SV.a (0 : Nat), SV.a (1 : Nat)]) ∧
  some (R.ro (D.recs (5 : Nat) m.avps.length (avpCell m.avps))) = some (R.ro (D.recs (5 : Nat) m.avps.length (avpCell m.avps))) ∧ some (R.ro (D.ints IntKind.i64 up)) = some (R.ro (D.ints IntKind.i64 up)) ∧
  some (R.ro (D.recs (1 : Nat) names.length (strCell names))) = some (R.ro (D.recs (1 : Nat) names.length (strCell names))) ∧ some (R.ro (D.recs (2 : Nat) n.routes.length (rtCell n.routes))) = some (R.ro (D.recs (2 : Nat) n.routes.length (rtCell n.routes))) ∧
  some (R.ro (D.ints IntKind.i64 n.peers)) = some (R.ro (D.ints IntKind.i64 n.peers)) ∧ True) ∧ ((!decide (g.snd.fst.getD (↑g_1 : Int).toNat (0 : Int) = y_1.fst)) = false →
  True ∧ ∃ (g' : Nat), g' ≤ p.fst.length ∧ p.fst.length - g' < p.fst.length - g_1 ∧ (IntKind.i64.wrap ((↑g_1 : Int) + (1 : Int)) = (↑g' : Int) ∧ List.filter (fun (x : Int) => !decide (x = p.snd)) (List.take g_1 p.fst) = List.filter (fun (x : Int) => !decide (x = p.snd)) (List.take g' p.fst) ∧
  (!false && true && true && ((Nat.ble (13 : Nat) (13 : Nat) || false) && true)) = true) ∧ (some (SV.a (12 : Nat)) = some (SV.a (12 : Nat)) ∧ some (SV.a (12 : Nat)) = some (SV.a (12 : Nat)) ∧
  some (SV.a (11 : Nat)) = some (SV.a (11 : Nat)) ∧ some (SV.c (Value.int IntKind.i64 y_1.fst)) = some (SV.c (Value.int IntKind.i64 y_1.fst)) ∧ some (SV.a (10 : Nat)) = some (SV.a (10 : Nat)) ∧
  some (SV.c (Value.bool (inF (vl (D.ints IntKind.i64 g.snd.snd)) (vi (D.v (Value.int IntKind.i64 y_1.fst)))))) = some (SV.c (Value.bool (inF (vl (D.ints IntKind.i64 g.snd.snd)) (vi (D.v (Value.int IntKind.i64 y_1.fst)))))) ∧
  some (SV.c (Value.int IntKind.i64 y_1.fst)) = some (SV.c (Value.int IntKind.i64 y_1.fst)) ∧ some (SV.a (10 : Nat)) = some (SV.a (10 : Nat)) ∧ some (SV.c (Value.bool (decide (y_1.fst = (-1 : Int))))) = some (SV.c (Value.bool (decide (y_1.fst = (-1 : Int))))) ∧
  some (SV.c (Value.bool (decide (y_1.fst = (-1 : Int))))) = some (SV.c (Value.bool (decide (y_1.fst = (-1 : Int))))) ∧ some (SV.c (Value.int IntKind.i64 y_1.fst)) = some (SV.c (Value.int IntKind.i64 y_1.fst)) ∧
  some (SV.b false) = some (SV.b false) ∧ some (SV.c (Value.bool !decide (y_1.snd = (0 : Int)))) = some (SV.c (Value.bool !decide (y_1.snd = (0 : Int)))) ∧
  some (SV.c (Value.int IntKind.i64 y_1.snd)) = some (SV.c (Value.int IntKind.i64 y_1.snd)) ∧ some (SV.c (Value.int IntKind.i64 y_1.snd)) = some (SV.c (Value.int IntKind.i64 y_1.snd)) ∧
  some (SV.c (Value.int IntKind.i64 y_1.fst)) = some (SV.c (Value.int IntKind.i64 y_1.fst)) ∧ some (SV.c (Value.int IntKind.i64 y_1.snd)) = some (SV.c (Value.int IntKind.i64 y_1.snd)) ∧
  some (SV.c (Value.int IntKind.i64 y_1.fst)) = some (SV.c (Value.int IntKind.i64 y_1.fst)) ∧ some (SV.tup [SV.c (Value.int IntKind.i64 y_1.fst), SV.c (Value.int IntKind.i64 y_1.snd)]) = some (SV.tup [SV.c (Value.int IntKind.i64 y_1.fst), SV.c (Value.int IntKind.i64 y_1.snd)]) ∧
  some (SV.tup [SV.c (Value.int IntKind.i64 y_1.fst), SV.c (Value.int IntKind.i64 y_1.snd)]) = some (SV.tup [SV.c (Value.int IntKind.i64 y_1.fst), SV.c (Value.int IntKind.i64 y_1.snd)]) ∧
  some (SV.c (Value.int IntKind.i64 fr)) = some (SV.c (Value.int IntKind.i64 fr)) ∧ some (SV.agg [SV.c (Value.bool m.b0), SV.c (Value.bool m.b1), SV.c (Value.bool m.b2), SV.c (Value.bool m.b3), SV.c (Value.int IntKind.u32 m.n0), SV.c (Value.int IntKind.u32 m.n1), SV.c (Value.int IntKind.u32 m.n2), SV.c (Value.int IntKind.u32 m.n3), SV.a (4 : Nat)]) = some (SV.agg [SV.c (Value.bool m.b0), SV.c (Value.bool m.b1), SV.c (Value.bool m.b2), SV.c (Value.bool m.b3), SV.c (Value.int IntKind.u32 m.n0), SV.c (Value.int IntKind.u32 m.n1), SV.c (Value.int IntKind.u32 m.n2), SV.c (Value.int IntKind.u32 m.n3), SV.a (4 : Nat)]) ∧
  some (SV.a (9 : Nat)) = some (SV.a (9 : Nat)) ∧ some (SV.a (2 : Nat)) = some (SV.a (2 : Nat)) ∧ some (SV.agg [SV.c (Value.string n.host), SV.c (Value.string n.realm), SV.c (Value.bool n.serves), SV.a (0 : Nat), SV.a (1 : Nat)]) = some (SV.agg [SV.c (Value.string n.host), SV.c (Value.string n.realm), SV.c (Value.bool n.serves), SV.a (0 : Nat), SV.a (1 : Nat)]) ∧
  some (SV.c (Value.bool (decide ((↑g.fst : Int) < (60 : Int))))) = some (SV.c (Value.bool (decide ((↑g.fst : Int) < (60 : Int))))) ∧ some (SV.c (Value.int IntKind.i64 (↑g.fst : Int))) = some (SV.c (Value.int IntKind.i64 (↑g.fst : Int))) ∧
  some (SV.c (Value.int IntKind.i64 (↑g.fst : Int))) = some (SV.c (Value.int IntKind.i64 (↑g.fst : Int))) ∧ some (SV.a (9 : Nat)) = some (SV.a (9 : Nat)) ∧
  some (SV.a (8 : Nat)) = some (SV.a (8 : Nat)) ∧ some (SV.a (3 : Nat)) = some (SV.a (3 : Nat)) ∧ some (SV.a (7 : Nat)) = some (SV.a (7 : Nat)) ∧ some (SV.c (Value.bool !y)) = some (SV.c (Value.bool !y)) ∧
  some (SV.c (Value.bool !y)) = some (SV.c (Value.bool !y)) ∧ some (SV.c (Value.bool y)) = some (SV.c (Value.bool y)) ∧ some (SV.agg [SV.c (Value.bool m.b0), SV.c (Value.bool m.b1), SV.c (Value.bool m.b2), SV.c (Value.bool m.b3), SV.c (Value.int IntKind.u32 m.n0), SV.c (Value.int IntKind.u32 m.n1), SV.c (Value.int IntKind.u32 m.n2), SV.c (Value.int IntKind.u32 m.n3), SV.a (4 : Nat)]) = some (SV.agg [SV.c (Value.bool m.b0), SV.c (Value.bool m.b1), SV.c (Value.bool m.b2), SV.c (Value.bool m.b3), SV.c (Value.int IntKind.u32 m.n0), SV.c (Value.int IntKind.u32 m.n1), SV.c (Value.int IntKind.u32 m.n2), SV.c (Value.int IntKind.u32 m.n3), SV.a (4 : Nat)]) ∧
  some (SV.a (3 : Nat)) = some (SV.a (3 : Nat)) ∧ some (SV.a (2 : Nat)) = some (SV.a (2 : Nat)) ∧ some (SV.agg [SV.c (Value.string n.host), SV.c (Value.string n.realm), SV.c (Value.bool n.serves), SV.a (0 : Nat), SV.a (1 : Nat)]) = some (SV.agg [SV.c (Value.string n.host), SV.c (Value.string n.realm), SV.c (Value.bool n.serves), SV.a (0 : Nat), SV.a (1 : Nat)]) ∧
  some (SV.b false) = some (SV.b false) ∧ some (SV.c (Value.bool !true)) = some (SV.c (Value.bool !true)) ∧ some (SV.c (Value.bool true)) = some (SV.c (Value.bool true)) ∧
  some (SV.p (6 : Nat) (0 : Nat)) = some (SV.p (6 : Nat) (0 : Nat)) ∧ some (SV.p (5 : Nat) (0 : Nat)) = some (SV.p (5 : Nat) (0 : Nat)) ∧ some (SV.agg [SV.c (Value.string n.host), SV.c (Value.string n.realm), SV.c (Value.bool n.serves), SV.a (0 : Nat), SV.a (1 : Nat)]) = some (SV.agg [SV.c (Value.string n.host), SV.c (Value.string n.realm), SV.c (Value.bool n.serves), SV.a (0 : Nat), SV.a (1 : Nat)]) ∧
  some (SV.a (2 : Nat)) = some (SV.a (2 : Nat)) ∧ some (SV.a (3 : Nat)) = some (SV.a (3 : Nat)) ∧ some (SV.agg [SV.c (Value.bool m.b0), SV.c (Value.bool m.b1), SV.c (Value.bool m.b2), SV.c (Value.bool m.b3), SV.c (Value.int IntKind.u32 m.n0), SV.c (Value.int IntKind.u32 m.n1), SV.c (Value.int IntKind.u32 m.n2), SV.c (Value.int IntKind.u32 m.n3), SV.a (4 : Nat)]) = some (SV.agg [SV.c (Value.bool m.b0), SV.c (Value.bool m.b1), SV.c (Value.bool m.b2), SV.c (Value.bool m.b3), SV.c (Value.int IntKind.u32 m.n0), SV.c (Value.int IntKind.u32 m.n1), SV.c (Value.int IntKind.u32 m.n2), SV.c (Value.int IntKind.u32 m.n3), SV.a (4 : Nat)]) ∧
  some (SV.c (Value.int IntKind.i64 fr)) = some (SV.c (Value.int IntKind.i64 fr)) ∧ True) ∧ some (R.own (3 : Nat) (D.ints IntKind.i64 (g.snd.snd ++ [y_1.fst]))) = some (R.own (3 : Nat) (D.ints IntKind.i64 (g.snd.snd ++ [y_1.fst]))) ∧
  some R.dead = some R.dead ∧ some (R.own (3 : Nat) (D.ints IntKind.i64 [y_1.fst])) = some (R.own (3 : Nat) (D.ints IntKind.i64 [y_1.fst])) ∧ some (R.own (3 : Nat) (D.ints IntKind.i64 g.snd.fst)) = some (R.own (3 : Nat) (D.ints IntKind.i64 g.snd.fst)) ∧
  some R.dead = some R.dead ∧ some R.dead = some R.dead ∧ some (R.blk (30 : Nat) [SV.c (Value.bool m.b0), SV.c (Value.bool m.b1), SV.c (Value.bool m.b2), SV.c (Value.bool m.b3), SV.c (Value.int IntKind.u32 m.n0), SV.c (Value.int IntKind.u32 m.n1), SV.c (Value.int IntKind.u32 m.n2), SV.c (Value.int IntKind.u32 m.n3), SV.a (4 : Nat)]) = some (R.blk (30 : Nat) [SV.c (Value.bool m.b0), SV.c (Value.bool m.b1), SV.c (Value.bool m.b2), SV.c (Value.bool m.b3), SV.c (Value.int IntKind.u32 m.n0), SV.c (Value.int IntKind.u32 m.n1), SV.c (Value.int IntKind.u32 m.n2), SV.c (Value.int IntKind.u32 m.n3), SV.a (4 : Nat)]) ∧
  some (R.blk (25 : Nat) [SV.c (Value.string n.host), SV.c (Value.string n.realm), SV.c (Value.bool n.serves), SV.a (0 : Nat), SV.a (1 : Nat)]) = some (R.blk (25 : Nat) [SV.c (Value.string n.host), SV.c (Value.string n.realm), SV.c (Value.bool n.serves), SV.a (0 : Nat), SV.a (1 : Nat)]) ∧
  some (R.ro (D.recs (5 : Nat) m.avps.length (avpCell m.avps))) = some (R.ro (D.recs (5 : Nat) m.avps.length (avpCell m.avps))) ∧ some (R.ro (D.ints IntKind.i64 up)) = some (R.ro (D.ints IntKind.i64 up)) ∧
  some (R.ro (D.recs (1 : Nat) names.length (strCell names))) = some (R.ro (D.recs (1 : Nat) names.length (strCell names))) ∧ some (R.ro (D.recs (2 : Nat) n.routes.length (rtCell n.routes))) = some (R.ro (D.recs (2 : Nat) n.routes.length (rtCell n.routes))) ∧
  some (R.ro (D.ints IntKind.i64 n.peers)) = some (R.ro (D.ints IntKind.i64 n.peers)) ∧ True)) ∧ (decide ((↑g_1 : Int) < (↑g.snd.fst.length : Int)) = false →
  True ∧ ∃ (g' : Nat × List Int × List Int), (g'.fst + g'.snd.fst.length ≤ up.length ∧ g'.snd.snd.length = g'.fst ∧ ∀ (x : Int), x ∈ g'.snd.snd → ¬x ∈ g'.snd.fst) ∧
  (60 : Nat) - g'.fst < (60 : Nat) - g.fst ∧ (IntKind.i64.wrap ((↑g.fst : Int) + (1 : Int)) = (↑g'.fst : Int) ∧ List.filter (fun (x : Int) => !decide (x = p.snd)) (List.take g_1 p.fst) = g'.snd.fst ∧
  g.snd.snd ++ [y_1.fst] = g'.snd.snd ∧ (!(Nat.beq (12 : Nat) (13 : Nat) || false) && (!false && true) && true && ((Nat.ble (9 : Nat) (13 : Nat) || (Nat.beq (8 : Nat) (13 : Nat) || false)) && ((Nat.ble (9 : Nat) (12 : Nat) || (Nat.beq (8 : Nat) (12 : Nat) || false)) && true))) = true) ∧
  (some (SV.a (8 : Nat)) = some (SV.a (8 : Nat)) ∧ some (SV.a (3 : Nat)) = some (SV.a (3 : Nat)) ∧ some (SV.a (7 : Nat)) = some (SV.a (7 : Nat)) ∧ some (SV.c (Value.bool !y)) = some (SV.c (Value.bool !y)) ∧
  some (SV.c (Value.bool !y)) = some (SV.c (Value.bool !y)) ∧ some (SV.c (Value.bool y)) = some (SV.c (Value.bool y)) ∧ some (SV.agg [SV.c (Value.bool m.b0), SV.c (Value.bool m.b1), SV.c (Value.bool m.b2), SV.c (Value.bool m.b3), SV.c (Value.int IntKind.u32 m.n0), SV.c (Value.int IntKind.u32 m.n1), SV.c (Value.int IntKind.u32 m.n2), SV.c (Value.int IntKind.u32 m.n3), SV.a (4 : Nat)]) = some (SV.agg [SV.c (Value.bool m.b0), SV.c (Value.bool m.b1), SV.c (Value.bool m.b2), SV.c (Value.bool m.b3), SV.c (Value.int IntKind.u32 m.n0), SV.c (Value.int IntKind.u32 m.n1), SV.c (Value.int IntKind.u32 m.n2), SV.c (Value.int IntKind.u32 m.n3), SV.a (4 : Nat)]) ∧
  some (SV.a (3 : Nat)) = some (SV.a (3 : Nat)) ∧ some (SV.a (2 : Nat)) = some (SV.a (2 : Nat)) ∧ some (SV.agg [SV.c (Value.string n.host), SV.c (Value.string n.realm), SV.c (Value.bool n.serves), SV.a (0 : Nat), SV.a (1 : Nat)]) = some (SV.agg [SV.c (Value.string n.host), SV.c (Value.string n.realm), SV.c (Value.bool n.serves), SV.a (0 : Nat), SV.a (1 : Nat)]) ∧
  some (SV.b false) = some (SV.b false) ∧ some (SV.c (Value.bool !true)) = some (SV.c (Value.bool !true)) ∧ some (SV.c (Value.bool true)) = some (SV.c (Value.bool true)) ∧
  some (SV.p (6 : Nat) (0 : Nat)) = some (SV.p (6 : Nat) (0 : Nat)) ∧ some (SV.p (5 : Nat) (0 : Nat)) = some (SV.p (5 : Nat) (0 : Nat)) ∧ some (SV.agg [SV.c (Value.string n.host), SV.c (Value.string n.realm), SV.c (Value.bool n.serves), SV.a (0 : Nat), SV.a (1 : Nat)]) = some (SV.agg [SV.c (Value.string n.host), SV.c (Value.string n.realm), SV.c (Value.bool n.serves), SV.a (0 : Nat), SV.a (1 : Nat)]) ∧
  some (SV.a (2 : Nat)) = some (SV.a (2 : Nat)) ∧ some (SV.a (3 : Nat)) = some (SV.a (3 : Nat)) ∧ some (SV.agg [SV.c (Value.bool m.b0), SV.c (Value.bool m.b1), SV.c (Value.bool m.b2), SV.c (Value.bool m.b3), SV.c (Value.int IntKind.u32 m.n0), SV.c (Value.int IntKind.u32 m.n1), SV.c (Value.int IntKind.u32 m.n2), SV.c (Value.int IntKind.u32 m.n3), SV.a (4 : Nat)]) = some (SV.agg [SV.c (Value.bool m.b0), SV.c (Value.bool m.b1), SV.c (Value.bool m.b2), SV.c (Value.bool m.b3), SV.c (Value.int IntKind.u32 m.n0), SV.c (Value.int IntKind.u32 m.n1), SV.c (Value.int IntKind.u32 m.n2), SV.c (Value.int IntKind.u32 m.n3), SV.a (4 : Nat)]) ∧
  some (SV.c (Value.int IntKind.i64 fr)) = some (SV.c (Value.int IntKind.i64 fr)) ∧ True) ∧ some R.dead = some R.dead ∧ some (R.blk (30 : Nat) [SV.c (Value.bool m.b0), SV.c (Value.bool m.b1), SV.c (Value.bool m.b2), SV.c (Value.bool m.b3), SV.c (Value.int IntKind.u32 m.n0), SV.c (Value.int IntKind.u32 m.n1), SV.c (Value.int IntKind.u32 m.n2), SV.c (Value.int IntKind.u32 m.n3), SV.a (4 : Nat)]) = some (R.blk (30 : Nat) [SV.c (Value.bool m.b0), SV.c (Value.bool m.b1), SV.c (Value.bool m.b2), SV.c (Value.bool m.b3), SV.c (Value.int IntKind.u32 m.n0), SV.c (Value.int IntKind.u32 m.n1), SV.c (Value.int IntKind.u32 m.n2), SV.c (Value.int IntKind.u32 m.n3), SV.a (4 : Nat)]) ∧
  some (R.blk (25 : Nat) [SV.c (Value.string n.host), SV.c (Value.string n.realm), SV.c (Value.bool n.serves), SV.a (0 : Nat), SV.a (1 : Nat)]) = some (R.blk (25 : Nat) [SV.c (Value.string n.host), SV.c (Value.string n.realm), SV.c (Value.bool n.serves), SV.a (0 : Nat), SV.a (1 : Nat)]) ∧
  some (R.ro (D.recs (5 : Nat) m.avps.length (avpCell m.avps))) = some (R.ro (D.recs (5 : Nat) m.avps.length (avpCell m.avps))) ∧ some (R.ro (D.ints IntKind.i64 up)) = some (R.ro (D.ints IntKind.i64 up)) ∧
  some (R.ro (D.recs (1 : Nat) names.length (strCell names))) = some (R.ro (D.recs (1 : Nat) names.length (strCell names))) ∧ some (R.ro (D.recs (2 : Nat) n.routes.length (rtCell n.routes))) = some (R.ro (D.recs (2 : Nat) n.routes.length (rtCell n.routes))) ∧
  some (R.ro (D.ints IntKind.i64 n.peers)) = some (R.ro (D.ints IntKind.i64 n.peers)) ∧ True)))) ∧ ((!decide (y_1.snd = (0 : Int))) = !false → true = true ∧
  (true && true) = true)) ∧ (decide ((↑g.fst : Int) < (60 : Int)) = false → false = true ∧ (true && true) = true))) ∧ ((!true) = !false → ([] : List O) = [] ∧ true = true ∧
  (true && true) = true) := by
  simp only [scOf_sc, scIn_sc, vlIn_l, pickA_eq, lightA_eq, true_and, and_true, implies_true, allT, Bool.and_self, Bool.not_false, List.mem_singleton, List.mem_cons, List.not_mem_nil, or_false, forall_eq, Int.toNat_natCast, vi, vb, vl, vs, List.getD_cons_succ, List.getD_cons_zero, strsOf_strs, rtsOf_rts, avpsOf_avps, mAvps, at_, dO, List.map_cons, List.map_nil, bytes_dec, Nat.zero_add, List.nil_append, List.length_cons, List.length_nil, bytes3]
  intro n names up m fr h hn _
  refine ⟨⟨n, names, up, m, rfl⟩, fun hl => ?_⟩
  have hup : up.length ≤ 50 := by
    have : lightF n names up m.avps = true := by simpa using hl
    simp only [lightF, Bool.and_eq_true, Bool.not_eq_true', Bool.or_eq_false_iff, decide_eq_false_iff_not] at this
    have := this.1.1.2
    omega
  refine ⟨by omega, (0, up, []), ⟨by simp, rfl, fun x hx => by cases hx⟩, rfl, rfl, rfl, ?_⟩
  rintro ⟨i, left, seen⟩ ⟨q1, q2, q3⟩
  simp only at q1 q2 q3 ⊢
  have hs : small left.length := by unfold small; omega
  have hs2 : small seen.length := by unfold small; omega
  refine ⟨fun hi => ⟨⟨n, names, left, m, fr, rfl, ⟨h.1, h.2.1, hs, h.2.2.2⟩, hn⟩, fun e1 e2 => ?_⟩, fun hi => ?_⟩
  · have hc := pick_cases n names left m.avps fr
    generalize pickF n names left m.avps fr = q at hc e1 e2 ⊢
    obtain ⟨to, code⟩ := q
    simp only at hc e1 e2 ⊢
    have e1' : code = 0 := by simpa using e1
    have e2' := of_decide_eq_false e2
    have hm : mayF n names left m.avps fr to = true := by
      rcases hc with hc | hc | hc
      · exact absurd hc.2.1 e2'
      · exact hc.2
      · omega
    simp only [mayF, Bool.and_eq_true] at hm
    have hin : to ∈ left := inF_mem hm.1.2
    refine ⟨⟨seen, to, rfl, hs2⟩, fun hb => absurd hin (q3 to (inF_mem hb)), fun hb => ⟨by omega, (left, to), 0, Nat.zero_le _, rfl, rfl, ?_⟩⟩
    intro k hk
    simp only at hk ⊢
    have hfl : ((left.take k).filter fun x => !decide (x = to)).length ≤ 50 := by
      have h1 := List.length_filter_le (fun x => !decide (x = to)) (left.take k)
      have h2 := List.length_take_le k left
      omega
    refine ⟨fun hlt => ⟨⟨by omega, of_decide_eq_true hlt⟩, fun ht => ⟨⟨by omega, of_decide_eq_true hlt⟩, by omega, k + 1, ?_, ?_, wrap_nat (by omega), ?_, rfl⟩, fun ht => ⟨k + 1, ?_, ?_, wrap_nat (by omega), ?_, rfl⟩⟩, fun hge => ?_⟩
    · have := of_decide_eq_true hlt; omega
    · have := of_decide_eq_true hlt; omega
    · rw [rest_step (by have := of_decide_eq_true hlt; omega), if_pos ht]
    · have := of_decide_eq_true hlt; omega
    · have := of_decide_eq_true hlt; omega
    · rw [rest_step (by have := of_decide_eq_true hlt; omega), if_neg (by rw [ht]; simp), List.append_nil]
    · have hk' : left.length ≤ k := by have := of_decide_eq_false hge; omega
      have hi' := of_decide_eq_true hi
      rw [List.take_of_length_le hk']
      have hl' := rest_len hin
      refine ⟨(i + 1, left.filter (fun x => !decide (x = to)), seen ++ [to]), ⟨?_, ?_, ?_⟩, ?_, wrap_nat (by omega), rfl, rfl, rfl⟩
      · simp only; omega
      · simp [q2]
      · intro x hx hx'
        simp only at hx hx'
        rw [List.mem_filter] at hx'
        rcases List.mem_append.1 hx with hx | hx
        · exact q3 x hx hx'.1
        · rw [List.mem_singleton] at hx; subst hx; simp at hx'
      · simp only; omega
  · have := of_decide_eq_false hi; omega
set_option maxRecDepth 100000 in
theorem ok5 : FnIs Try.prog 5 routeC := by
  refine fnIs (C := ctrs b12) (by kernel_rfl) b12_ok Try.func5 (code := code5) (by kernel_rfl) (by kernel_rfl) ?_
  rintro a ⟨n, names, up, m, fr, rfl, h, hn⟩
  exact ⟨anns [(6, overAnn up), (16, restAnn)] [1, 9], kcast (vc5 n names up m fr h hn) (by kernel_rfl)⟩

end Go.YR
