/- Part 22 of what the closing text rests on. -/
import Derived.Test.YtlbfenfepmmihaaP21
import Derived.Test.YtlbfenfepmmihaaRows
namespace Go.ZR
open Go.Proofs
open Go.Z Go.ZM Go.RowKit
set_option maxRecDepth 100000
theorem gaps0 : gapsOf (D.recs 2 0 fun (_ _ : Nat) => D.v undef) = [] := rfl
theorem gaps0_is : isGaps [] 2 0 fun (_ _ : Nat) => D.v undef := ⟨rfl, rfl, fun i hi => absurd hi (by omega)⟩
theorem plain_mk (c : Int) : HeaR.mk c 0 [] [] = plainH c := rfl
theorem plain_ok {c : Int} (hc : 0 ≤ c ∧ c ≤ 4294967295) : okHea (plainH c) :=
  ⟨hc, ⟨Int.le_refl _, show (0 : Int) ≤ 4294967295 by decide⟩, ⟨show 0 ≤ 1073741824 by decide, fun g hg => absurd hg (by simp [plainH])⟩, ⟨show 0 ≤ 1073741824 by decide, fun n hn => absurd hn (by simp [plainH])⟩⟩
noncomputable def code11 : Code := match Try.f11.body with | some c => c | none => .skip
set_option maxHeartbeats 4000000 in
theorem vc11 : let y := gapsOf (D.recs Try.prog.types[(43 : Nat)].size (0 : Nat) fun (_x _x_1 : Nat) => D.v undef); ∀ (f n g : Int), (0 : Int) ≤ f ∧ f ≤ (4294967295 : Int) →
  (0 : Int) ≤ n ∧ n ≤ (255 : Int) → (0 : Int) ≤ g ∧ g ≤ (255 : Int) → (∃ (f_1 : Int), [O.d (D.v (Value.int IntKind.u32 f))] = [O.d (D.v (Value.int IntKind.u32 f_1))]) ∧
  ∀ (bs : List Nat), bs.length = (newQ f).out.length → ([] : List O) = [] ∧ ∃ (g0 : Nat × QuR), (g0.fst ≤ (256 : Nat) ∧ okQ g0.snd ∧ g0.snd.next = u32 (f + (↑g0.fst : Int)) ∧
  g0.snd.wait.length = g0.fst ∧ g0.snd.out = []) ∧ (0 : Int) = (↑g0.fst : Int) ∧ (newQ f).next = g0.snd.next ∧ ((newQ f).wait.length = g0.snd.wait.length ∧
  ∀ (i : Nat), i < (newQ f).wait.length → ∀ (j : Nat), j < (7 : Nat) → pieCell (newQ f).wait i j = pieCell g0.snd.wait i j) ∧ ((newQ f).out.length = g0.snd.out.length ∧
  (∀ (i : Nat), i < g0.snd.out.length → ∀ (j : Nat), j < (11 : Nat) → itCell (newQ f).out i j = itCell g0.snd.out i j) ∧ True) ∧ (!(Nat.beq (0 : Nat) (2 : Nat) || (Nat.beq (1 : Nat) (2 : Nat) || false)) && (!(Nat.beq (1 : Nat) (0 : Nat) || false) && (!false && true)) && true) = true ∧
  ∀ (g_1 : Nat × QuR), let y_1 := piesOf (D.recs (7 : Nat) g_1.snd.wait.length (pieCell g_1.snd.wait)); let y_2 := pushQ (QuR.mk g_1.snd.next y_1 (itsOf g_1.snd.out.length (itCell g_1.snd.out))) (PieR.mk (0 : Int) (0 : Int) (0 : Int) false false false [(1 : Int)]);
  let y_3 := pushQ (QuR.mk g_1.snd.next y_1 (itsOf g_1.snd.out.length (itCell g_1.snd.out))) (PieR.mk (0 : Int) (0 : Int) (0 : Int) false false false [IntKind.u8.wrap (↑g_1.fst : Int)]);
  g_1.fst ≤ (256 : Nat) ∧ okQ g_1.snd ∧ g_1.snd.next = u32 (f + (↑g_1.fst : Int)) ∧ g_1.snd.wait.length = g_1.fst ∧ g_1.snd.out = [] → ∀ (bs_1 : List Nat), bs_1.length = g_1.snd.out.length →
  True ∧ sw (decide ((↑g_1.fst : Int) < (256 : Int))) ((∃ (bs_2 : List Nat), ∃ (q : QuR), ∃ (p : PieR), [O.ptr (166 : Nat) [O.d (D.v (Value.int IntKind.u32 g_1.snd.next)), O.own (86 : Nat) (D.recs (7 : Nat) g_1.snd.wait.length (pieCell g_1.snd.wait)), O.pown (169 : Nat) (171 : Nat) (11 : Nat) (some bs_1) g_1.snd.out.length (itCell g_1.snd.out)], O.agg [O.d (D.v (Value.int IntKind.u32 (0 : Int))), O.d (D.v (Value.int IntKind.u16 (0 : Int))), O.d (D.v (Value.int IntKind.u16 (0 : Int))), O.d (D.v (Value.bool false)), O.d (D.v (Value.bool false)), O.d (D.v (Value.bool false)), O.d (D.ints IntKind.u8 [IntKind.u8.wrap (↑g_1.fst : Int)])]] = [O.ptr (166 : Nat) [O.d (D.v (Value.int IntKind.u32 q.next)), O.own (86 : Nat) (D.recs (7 : Nat) q.wait.length (pieCell q.wait)), O.pown (169 : Nat) (171 : Nat) (11 : Nat) (some bs_2) q.out.length (itCell q.out)], O.agg [O.d (D.v (Value.int IntKind.u32 p.tsn)), O.d (D.v (Value.int IntKind.u16 p.str)), O.d (D.v (Value.int IntKind.u16 p.seq)), O.d (D.v (Value.bool p.b)), O.d (D.v (Value.bool p.e)), O.d (D.v (Value.bool p.u)), O.d (D.ints IntKind.u8 p.bytes)]] ∧
  okQ q ∧ sm p.bytes.length) ∧ ∀ (bs_2 : List Nat), bs_2.length = y_3.fst.out.length → True ∧ sw (!!decide (y_3.snd.snd = (0 : Int))) (SV.c (Value.int IntKind.u32 y_3.snd.fst) = SV.c (Value.int IntKind.u32 y_3.snd.fst)) True ∧
  sw (!!decide (y_3.snd.snd = (0 : Int))) (SV.c (Value.int IntKind.u32 f) = SV.c (Value.int IntKind.u32 f)) True ∧ sw (!!decide (y_3.snd.snd = (0 : Int))) (SV.c (Value.int IntKind.i64 (↑g_1.fst : Int)) = SV.c (Value.int IntKind.i64 (↑g_1.fst : Int))) True ∧
  sw (!!decide (y_3.snd.snd = (0 : Int))) ([!!decide (y_3.snd.snd = (0 : Int))] = [!!decide (y_3.snd.snd = (0 : Int))] ∧ SV.c (Value.int IntKind.u32 (IntKind.u32.wrap (↑g_1.fst : Int))) = SV.c (Value.int IntKind.u32 (IntKind.u32.wrap (↑g_1.fst : Int)))) True ∧
  sw (!!decide (y_3.snd.snd = (0 : Int))) ([!!decide (y_3.snd.snd = (0 : Int))] = [!!decide (y_3.snd.snd = (0 : Int))] ∧ [!!decide (y_3.snd.snd = (0 : Int))] = [!!decide (y_3.snd.snd = (0 : Int))] ∧
  True ∧ SV.c (Value.int IntKind.u32 (IntKind.u32.wrap (f + IntKind.u32.wrap (↑g_1.fst : Int)))) = SV.c (Value.int IntKind.u32 (IntKind.u32.wrap (f + IntKind.u32.wrap (↑g_1.fst : Int))))) True ∧
  sw (!!decide (y_3.snd.snd = (0 : Int))) ([!!decide (y_3.snd.snd = (0 : Int))] = [!!decide (y_3.snd.snd = (0 : Int))] ∧ [!!decide (y_3.snd.snd = (0 : Int))] = [!!decide (y_3.snd.snd = (0 : Int))] ∧
  True ∧ SV.c (Value.bool !decide (y_3.snd.fst = IntKind.u32.wrap (f + IntKind.u32.wrap (↑g_1.fst : Int)))) = SV.c (Value.bool !decide (y_3.snd.fst = IntKind.u32.wrap (f + IntKind.u32.wrap (↑g_1.fst : Int))))) True ∧
  [!!decide (y_3.snd.snd = (0 : Int))] = [!!decide (y_3.snd.snd = (0 : Int))] ∧ sw (!decide (y_3.snd.snd = (0 : Int)) || !decide (y_3.snd.fst = IntKind.u32.wrap (f + IntKind.u32.wrap (↑g_1.fst : Int)))) (false = true ∧
  (true && true) = true) (True ∧ ∃ (g' : Nat × QuR), (g'.fst ≤ (256 : Nat) ∧ okQ g'.snd ∧ g'.snd.next = u32 (f + (↑g'.fst : Int)) ∧ g'.snd.wait.length = g'.fst ∧
  g'.snd.out = []) ∧ (256 : Nat) - g'.fst < (256 : Nat) - g_1.fst ∧ (IntKind.i64.wrap ((↑g_1.fst : Int) + (1 : Int)) = (↑g'.fst : Int) ∧ y_3.fst.next = g'.snd.next ∧
  (y_3.fst.wait.length = g'.snd.wait.length ∧ ∀ (i : Nat), i < y_3.fst.wait.length → ∀ (j : Nat), j < (7 : Nat) → pieCell y_3.fst.wait i j = pieCell g'.snd.wait i j) ∧
  (y_3.fst.out.length = g'.snd.out.length ∧ (∀ (i : Nat), i < g'.snd.out.length → ∀ (j : Nat), j < (11 : Nat) → itCell y_3.fst.out i j = itCell g'.snd.out i j) ∧
  True) ∧ (!(Nat.beq (7 : Nat) (5 : Nat) || (Nat.beq (8 : Nat) (5 : Nat) || false)) && (!(Nat.beq (8 : Nat) (7 : Nat) || false) && (!false && true)) && true && ((Nat.ble (3 : Nat) (5 : Nat) || (Nat.beq (2 : Nat) (5 : Nat) || (Nat.beq (0 : Nat) (5 : Nat) || (Nat.beq (1 : Nat) (5 : Nat) || false)))) && ((Nat.ble (3 : Nat) (7 : Nat) || (Nat.beq (2 : Nat) (7 : Nat) || (Nat.beq (0 : Nat) (7 : Nat) || (Nat.beq (1 : Nat) (7 : Nat) || false)))) && ((Nat.ble (3 : Nat) (8 : Nat) || (Nat.beq (2 : Nat) (8 : Nat) || (Nat.beq (0 : Nat) (8 : Nat) || (Nat.beq (1 : Nat) (8 : Nat) || false)))) && true)))) = true) ∧
  (some (SV.b false) = some (SV.b false) ∧ some (SV.b false) = some (SV.b false) ∧ some (SV.p (2 : Nat) (0 : Nat)) = some (SV.p (2 : Nat) (0 : Nat)) ∧ some (SV.b false) = some (SV.b false) ∧
  some (SV.c (Value.bool !true)) = some (SV.c (Value.bool !true)) ∧ some (SV.c (Value.bool true)) = some (SV.c (Value.bool true)) ∧ some (SV.p (2 : Nat) (0 : Nat)) = some (SV.p (2 : Nat) (0 : Nat)) ∧
  some (SV.c (Value.int IntKind.u32 f)) = some (SV.c (Value.int IntKind.u32 f)) ∧ some (SV.c (Value.int IntKind.u32 f)) = some (SV.c (Value.int IntKind.u32 f)) ∧
  some (SV.c (Value.int IntKind.u8 n)) = some (SV.c (Value.int IntKind.u8 n)) ∧ some (SV.c (Value.int IntKind.u8 g)) = some (SV.c (Value.int IntKind.u8 g)) ∧
  True) ∧ True)) ((∃ (bs_2 : List Nat), ∃ (q : QuR), ∃ (p : PieR), [O.ptr (166 : Nat) [O.d (D.v (Value.int IntKind.u32 g_1.snd.next)), O.own (86 : Nat) (D.recs (7 : Nat) g_1.snd.wait.length (pieCell g_1.snd.wait)), O.pown (169 : Nat) (171 : Nat) (11 : Nat) (some bs_1) g_1.snd.out.length (itCell g_1.snd.out)], O.agg [O.d (D.v (Value.int IntKind.u32 (0 : Int))), O.d (D.v (Value.int IntKind.u16 (0 : Int))), O.d (D.v (Value.int IntKind.u16 (0 : Int))), O.d (D.v (Value.bool false)), O.d (D.v (Value.bool false)), O.d (D.v (Value.bool false)), O.d (D.ints IntKind.u8 [(1 : Int)])]] = [O.ptr (166 : Nat) [O.d (D.v (Value.int IntKind.u32 q.next)), O.own (86 : Nat) (D.recs (7 : Nat) q.wait.length (pieCell q.wait)), O.pown (169 : Nat) (171 : Nat) (11 : Nat) (some bs_2) q.out.length (itCell q.out)], O.agg [O.d (D.v (Value.int IntKind.u32 p.tsn)), O.d (D.v (Value.int IntKind.u16 p.str)), O.d (D.v (Value.int IntKind.u16 p.seq)), O.d (D.v (Value.bool p.b)), O.d (D.v (Value.bool p.e)), O.d (D.v (Value.bool p.u)), O.d (D.ints IntKind.u8 p.bytes)]] ∧
  okQ q ∧ sm p.bytes.length) ∧ ∀ (bs_2 : List Nat), bs_2.length = y_2.fst.out.length → True ∧ sw (!decide (y_2.snd.snd = (10 : Int))) (false = true ∧ (true && true) = true) (∃ (g0_1 : Nat × QuR), ((↑g0_1.fst : Int) ≤ n ∧
  okQ g0_1.snd ∧ oneP g0_1.snd ∧ g0_1.snd.next = u32 (f + (256 : Int)) ∧ g0_1.snd.wait.length = (256 : Nat) - g0_1.fst ∧ g0_1.snd.out.length = g0_1.fst ∧
  markQ g0_1.snd.out = none) ∧ (0 : Int) = (↑g0_1.fst : Int) ∧ y_2.fst.next = g0_1.snd.next ∧ (y_2.fst.wait.length = g0_1.snd.wait.length ∧ ∀ (i : Nat), i < y_2.fst.wait.length →
  ∀ (j : Nat), j < (7 : Nat) → pieCell y_2.fst.wait i j = pieCell g0_1.snd.wait i j) ∧ (y_2.fst.out.length = g0_1.snd.out.length ∧ (∀ (i : Nat), i < g0_1.snd.out.length →
  ∀ (j : Nat), j < (11 : Nat) → itCell y_2.fst.out i j = itCell g0_1.snd.out i j) ∧ True) ∧ (!(Nat.beq (7 : Nat) (5 : Nat) || (Nat.beq (8 : Nat) (5 : Nat) || false)) && (!(Nat.beq (8 : Nat) (7 : Nat) || false) && (!false && true)) && true) = true ∧
  ∀ (g_2 : Nat × QuR), (↑g_2.fst : Int) ≤ n ∧ okQ g_2.snd ∧ oneP g_2.snd ∧ g_2.snd.next = u32 (f + (256 : Int)) ∧ g_2.snd.wait.length = (256 : Nat) - g_2.fst ∧
  g_2.snd.out.length = g_2.fst ∧ markQ g_2.snd.out = none → ∀ (bs_3 : List Nat), bs_3.length = g_2.snd.out.length → True ∧ sw (decide ((↑g_2.fst : Int) < IntKind.i64.wrap n)) ((∃ (bs_4 : List Nat), ∃ (q : QuR), ∃ (p : Int), [O.ptr (166 : Nat) [O.d (D.v (Value.int IntKind.u32 g_2.snd.next)), O.own (86 : Nat) (D.recs (7 : Nat) g_2.snd.wait.length (pieCell g_2.snd.wait)), O.pown (169 : Nat) (171 : Nat) (11 : Nat) (some bs_3) g_2.snd.out.length (itCell g_2.snd.out)], O.d (D.v (Value.int IntKind.i64 (0 : Int)))] = [O.ptr (166 : Nat) [O.d (D.v (Value.int IntKind.u32 q.next)), O.own (86 : Nat) (D.recs (7 : Nat) q.wait.length (pieCell q.wait)), O.pown (169 : Nat) (171 : Nat) (11 : Nat) (some bs_4) q.out.length (itCell q.out)], O.d (D.v (Value.int IntKind.i64 p))] ∧
  okQ q) ∧ ∀ (bs_4 : List Nat), bs_4.length = (nextQ (QuR.mk g_2.snd.next (piesOf (D.recs (7 : Nat) g_2.snd.wait.length (pieCell g_2.snd.wait))) (itsOf g_2.snd.out.length (itCell g_2.snd.out))) (0 : Int)).fst.out.length →
  True ∧ ∃ (g' : Nat × QuR), ((↑g'.fst : Int) ≤ n ∧ okQ g'.snd ∧ oneP g'.snd ∧ g'.snd.next = u32 (f + (256 : Int)) ∧ g'.snd.wait.length = (256 : Nat) - g'.fst ∧
  g'.snd.out.length = g'.fst ∧ markQ g'.snd.out = none) ∧ n.toNat - g'.fst < n.toNat - g_2.fst ∧ (IntKind.i64.wrap ((↑g_2.fst : Int) + (1 : Int)) = (↑g'.fst : Int) ∧
  (nextQ (QuR.mk g_2.snd.next (piesOf (D.recs (7 : Nat) g_2.snd.wait.length (pieCell g_2.snd.wait))) (itsOf g_2.snd.out.length (itCell g_2.snd.out))) (0 : Int)).fst.next = g'.snd.next ∧
  ((nextQ (QuR.mk g_2.snd.next (piesOf (D.recs (7 : Nat) g_2.snd.wait.length (pieCell g_2.snd.wait))) (itsOf g_2.snd.out.length (itCell g_2.snd.out))) (0 : Int)).fst.wait.length = g'.snd.wait.length ∧
  ∀ (i : Nat), i < (nextQ (QuR.mk g_2.snd.next (piesOf (D.recs (7 : Nat) g_2.snd.wait.length (pieCell g_2.snd.wait))) (itsOf g_2.snd.out.length (itCell g_2.snd.out))) (0 : Int)).fst.wait.length →
  ∀ (j : Nat), j < (7 : Nat) → pieCell (nextQ (QuR.mk g_2.snd.next (piesOf (D.recs (7 : Nat) g_2.snd.wait.length (pieCell g_2.snd.wait))) (itsOf g_2.snd.out.length (itCell g_2.snd.out))) (0 : Int)).fst.wait i j = pieCell g'.snd.wait i j) ∧
  ((nextQ (QuR.mk g_2.snd.next (piesOf (D.recs (7 : Nat) g_2.snd.wait.length (pieCell g_2.snd.wait))) (itsOf g_2.snd.out.length (itCell g_2.snd.out))) (0 : Int)).fst.out.length = g'.snd.out.length ∧
  (∀ (i : Nat), i < g'.snd.out.length → ∀ (j : Nat), j < (11 : Nat) → itCell (nextQ (QuR.mk g_2.snd.next (piesOf (D.recs (7 : Nat) g_2.snd.wait.length (pieCell g_2.snd.wait))) (itsOf g_2.snd.out.length (itCell g_2.snd.out))) (0 : Int)).fst.out i j = itCell g'.snd.out i j) ∧
  True) ∧ (!(Nat.beq (12 : Nat) (11 : Nat) || (Nat.beq (13 : Nat) (11 : Nat) || false)) && (!(Nat.beq (13 : Nat) (12 : Nat) || false) && (!false && true)) && true && ((Nat.ble (9 : Nat) (11 : Nat) || (Nat.beq (5 : Nat) (11 : Nat) || (Nat.beq (7 : Nat) (11 : Nat) || (Nat.beq (8 : Nat) (11 : Nat) || false)))) && ((Nat.ble (9 : Nat) (12 : Nat) || (Nat.beq (5 : Nat) (12 : Nat) || (Nat.beq (7 : Nat) (12 : Nat) || (Nat.beq (8 : Nat) (12 : Nat) || false)))) && ((Nat.ble (9 : Nat) (13 : Nat) || (Nat.beq (5 : Nat) (13 : Nat) || (Nat.beq (7 : Nat) (13 : Nat) || (Nat.beq (8 : Nat) (13 : Nat) || false)))) && true)))) = true) ∧
  (some (SV.c (Value.int IntKind.i64 (IntKind.i64.wrap n))) = some (SV.c (Value.int IntKind.i64 (IntKind.i64.wrap n))) ∧ some (SV.c (Value.int IntKind.i64 (IntKind.i64.wrap n))) = some (SV.c (Value.int IntKind.i64 (IntKind.i64.wrap n))) ∧
  some (SV.c (Value.int IntKind.u8 n)) = some (SV.c (Value.int IntKind.u8 n)) ∧ some (SV.c (Value.bool !decide (y_2.snd.snd = (10 : Int)))) = some (SV.c (Value.bool !decide (y_2.snd.snd = (10 : Int)))) ∧
  some (SV.c (Value.int IntKind.i64 y_2.snd.snd)) = some (SV.c (Value.int IntKind.i64 y_2.snd.snd)) ∧ some (SV.c (Value.int IntKind.i64 y_2.snd.snd)) = some (SV.c (Value.int IntKind.i64 y_2.snd.snd)) ∧
  some (SV.c (Value.int IntKind.u32 y_2.snd.fst)) = some (SV.c (Value.int IntKind.u32 y_2.snd.fst)) ∧ some (SV.c (Value.int IntKind.i64 y_2.snd.snd)) = some (SV.c (Value.int IntKind.i64 y_2.snd.snd)) ∧
  some (SV.c (Value.int IntKind.u32 y_2.snd.fst)) = some (SV.c (Value.int IntKind.u32 y_2.snd.fst)) ∧ some (SV.tup [SV.c (Value.int IntKind.u32 y_2.snd.fst), SV.c (Value.int IntKind.i64 y_2.snd.snd)]) = some (SV.tup [SV.c (Value.int IntKind.u32 y_2.snd.fst), SV.c (Value.int IntKind.i64 y_2.snd.snd)]) ∧
  some (SV.tup [SV.c (Value.int IntKind.u32 y_2.snd.fst), SV.c (Value.int IntKind.i64 y_2.snd.snd)]) = some (SV.tup [SV.c (Value.int IntKind.u32 y_2.snd.fst), SV.c (Value.int IntKind.i64 y_2.snd.snd)]) ∧
  some (SV.agg [SV.c (Value.int IntKind.u32 (0 : Int)), SV.c (Value.int IntKind.u16 (0 : Int)), SV.c (Value.int IntKind.u16 (0 : Int)), SV.b false, SV.b false, SV.b false, SV.a (6 : Nat)]) = some (SV.agg [SV.c (Value.int IntKind.u32 (0 : Int)), SV.c (Value.int IntKind.u16 (0 : Int)), SV.c (Value.int IntKind.u16 (0 : Int)), SV.b false, SV.b false, SV.b false, SV.a (6 : Nat)]) ∧
  some (SV.a (6 : Nat)) = some (SV.a (6 : Nat)) ∧ some (SV.p (5 : Nat) (0 : Nat)) = some (SV.p (5 : Nat) (0 : Nat)) ∧ some (SV.c (Value.bool (decide ((↑g_1.fst : Int) < (256 : Int))))) = some (SV.c (Value.bool (decide ((↑g_1.fst : Int) < (256 : Int))))) ∧
  some (SV.c (Value.int IntKind.i64 (↑g_1.fst : Int))) = some (SV.c (Value.int IntKind.i64 (↑g_1.fst : Int))) ∧ some (SV.c (Value.int IntKind.i64 (↑g_1.fst : Int))) = some (SV.c (Value.int IntKind.i64 (↑g_1.fst : Int))) ∧
  some (SV.b false) = some (SV.b false) ∧ some (SV.b false) = some (SV.b false) ∧ some (SV.p (2 : Nat) (0 : Nat)) = some (SV.p (2 : Nat) (0 : Nat)) ∧ some (SV.b false) = some (SV.b false) ∧
  some (SV.c (Value.bool !true)) = some (SV.c (Value.bool !true)) ∧ some (SV.c (Value.bool true)) = some (SV.c (Value.bool true)) ∧ some (SV.p (2 : Nat) (0 : Nat)) = some (SV.p (2 : Nat) (0 : Nat)) ∧
  some (SV.c (Value.int IntKind.u32 f)) = some (SV.c (Value.int IntKind.u32 f)) ∧ some (SV.c (Value.int IntKind.u32 f)) = some (SV.c (Value.int IntKind.u32 f)) ∧
  some (SV.c (Value.int IntKind.u8 n)) = some (SV.c (Value.int IntKind.u8 n)) ∧ some (SV.c (Value.int IntKind.u8 g)) = some (SV.c (Value.int IntKind.u8 g)) ∧
  True) ∧ some R.dead = some R.dead ∧ some R.dead = some R.dead ∧ some (R.ro (D.ints IntKind.u8 [(1 : Int)])) = some (R.ro (D.ints IntKind.u8 [(1 : Int)])) ∧
  some R.dead = some R.dead ∧ some R.dead = some R.dead ∧ some R.dead = some R.dead ∧ True) (True ∧ True ∧ (∃ (bs_4 : List Nat), ∃ (q : QuR), ∃ (h : HeaR), ∃ (es : Nat), ∃ (n_1 : Nat), ∃ (F : Nat →
  Nat → D), [O.ptr (166 : Nat) [O.d (D.v (Value.int IntKind.u32 g_2.snd.next)), O.own (86 : Nat) (D.recs (7 : Nat) g_2.snd.wait.length (pieCell g_2.snd.wait)), O.pown (169 : Nat) (171 : Nat) (11 : Nat) (some bs_3) g_2.snd.out.length (itCell g_2.snd.out)], O.agg [O.d (D.v (Value.int IntKind.u32 (IntKind.u32.wrap (IntKind.u32.wrap (f + IntKind.u32.wrap (IntKind.i64.wrap g)) - (1 : Int))))), O.d (D.v (Value.int IntKind.u32 (0 : Int))), O.d (D.recs Try.prog.types[(43 : Nat)].size (0 : Nat) fun (_x _x_1 : Nat) => D.v undef), O.d (D.ints IntKind.u32 [])]] = [O.ptr (166 : Nat) [O.d (D.v (Value.int IntKind.u32 q.next)), O.own (86 : Nat) (D.recs (7 : Nat) q.wait.length (pieCell q.wait)), O.pown (169 : Nat) (171 : Nat) (11 : Nat) (some bs_4) q.out.length (itCell q.out)], O.agg [O.d (D.v (Value.int IntKind.u32 h.cum)), O.d (D.v (Value.int IntKind.u32 h.win)), O.d (D.recs es n_1 F), O.d (D.ints IntKind.u32 h.dups)]] ∧
  (es = (2 : Nat) ∧ h.gaps.length = n_1 ∧ ∀ (i : Nat), i < n_1 → ∀ (j : Nat), j < (2 : Nat) → F i j = gapCell h.gaps i j) ∧ okQ q ∧ oneP q ∧ okHea h) ∧ ∀ (bs_4 : List Nat), bs_4.length = (heardQ (QuR.mk g_2.snd.next (piesOf (D.recs (7 : Nat) g_2.snd.wait.length (pieCell g_2.snd.wait))) (itsOf g_2.snd.out.length (itCell g_2.snd.out))) (HeaR.mk (IntKind.u32.wrap (IntKind.u32.wrap (f + IntKind.u32.wrap (IntKind.i64.wrap g)) - (1 : Int))) (0 : Int) y [])).q.out.length →
  True ∧ sw (decide (IntKind.i64.wrap n < IntKind.i64.wrap g)) (True ∧ decide ((heardQ (QuR.mk g_2.snd.next (piesOf (D.recs (7 : Nat) g_2.snd.wait.length (pieCell g_2.snd.wait))) (itsOf g_2.snd.out.length (itCell g_2.snd.out))) (HeaR.mk (IntKind.u32.wrap (IntKind.u32.wrap (f + IntKind.u32.wrap (IntKind.i64.wrap g)) - (1 : Int))) (0 : Int) y [])).e = (15 : Int)) = true ∧
  (true && true) = true) (∃ (g0_2 : Nat × QuR), ((↑g0_2.fst : Int) ≤ g ∧ okQ g0_2.snd ∧ (↑(g0_2.snd.wait.length + g0_2.snd.out.length) : Int) = (256 : Int) - g + (↑g0_2.fst : Int)) ∧
  (0 : Int) = (↑g0_2.fst : Int) ∧ (heardQ (QuR.mk g_2.snd.next (piesOf (D.recs (7 : Nat) g_2.snd.wait.length (pieCell g_2.snd.wait))) (itsOf g_2.snd.out.length (itCell g_2.snd.out))) (HeaR.mk (IntKind.u32.wrap (IntKind.u32.wrap (f + IntKind.u32.wrap (IntKind.i64.wrap g)) - (1 : Int))) (0 : Int) y [])).q.next = g0_2.snd.next ∧
  ((heardQ (QuR.mk g_2.snd.next (piesOf (D.recs (7 : Nat) g_2.snd.wait.length (pieCell g_2.snd.wait))) (itsOf g_2.snd.out.length (itCell g_2.snd.out))) (HeaR.mk (IntKind.u32.wrap (IntKind.u32.wrap (f + IntKind.u32.wrap (IntKind.i64.wrap g)) - (1 : Int))) (0 : Int) y [])).q.wait.length = g0_2.snd.wait.length ∧
  ∀ (i : Nat), i < (heardQ (QuR.mk g_2.snd.next (piesOf (D.recs (7 : Nat) g_2.snd.wait.length (pieCell g_2.snd.wait))) (itsOf g_2.snd.out.length (itCell g_2.snd.out))) (HeaR.mk (IntKind.u32.wrap (IntKind.u32.wrap (f + IntKind.u32.wrap (IntKind.i64.wrap g)) - (1 : Int))) (0 : Int) y [])).q.wait.length →
  ∀ (j : Nat), j < (7 : Nat) → pieCell (heardQ (QuR.mk g_2.snd.next (piesOf (D.recs (7 : Nat) g_2.snd.wait.length (pieCell g_2.snd.wait))) (itsOf g_2.snd.out.length (itCell g_2.snd.out))) (HeaR.mk (IntKind.u32.wrap (IntKind.u32.wrap (f + IntKind.u32.wrap (IntKind.i64.wrap g)) - (1 : Int))) (0 : Int) y [])).q.wait i j = pieCell g0_2.snd.wait i j) ∧
  ((heardQ (QuR.mk g_2.snd.next (piesOf (D.recs (7 : Nat) g_2.snd.wait.length (pieCell g_2.snd.wait))) (itsOf g_2.snd.out.length (itCell g_2.snd.out))) (HeaR.mk (IntKind.u32.wrap (IntKind.u32.wrap (f + IntKind.u32.wrap (IntKind.i64.wrap g)) - (1 : Int))) (0 : Int) y [])).q.out.length = g0_2.snd.out.length ∧
  (∀ (i : Nat), i < g0_2.snd.out.length → ∀ (j : Nat), j < (11 : Nat) → itCell (heardQ (QuR.mk g_2.snd.next (piesOf (D.recs (7 : Nat) g_2.snd.wait.length (pieCell g_2.snd.wait))) (itsOf g_2.snd.out.length (itCell g_2.snd.out))) (HeaR.mk (IntKind.u32.wrap (IntKind.u32.wrap (f + IntKind.u32.wrap (IntKind.i64.wrap g)) - (1 : Int))) (0 : Int) y [])).q.out i j = itCell g0_2.snd.out i j) ∧
  True) ∧ (!(Nat.beq (12 : Nat) (11 : Nat) || (Nat.beq (13 : Nat) (11 : Nat) || false)) && (!(Nat.beq (13 : Nat) (12 : Nat) || false) && (!false && true)) && true) = true ∧
  ∀ (g_3 : Nat × QuR), (↑g_3.fst : Int) ≤ g ∧ okQ g_3.snd ∧ (↑(g_3.snd.wait.length + g_3.snd.out.length) : Int) = (256 : Int) - g + (↑g_3.fst : Int) → ∀ (bs_5 : List Nat), bs_5.length = g_3.snd.out.length →
  True ∧ sw (decide ((↑g_3.fst : Int) < IntKind.i64.wrap g)) ((∃ (bs_6 : List Nat), ∃ (q : QuR), ∃ (p : PieR), [O.ptr (166 : Nat) [O.d (D.v (Value.int IntKind.u32 g_3.snd.next)), O.own (86 : Nat) (D.recs (7 : Nat) g_3.snd.wait.length (pieCell g_3.snd.wait)), O.pown (169 : Nat) (171 : Nat) (11 : Nat) (some bs_5) g_3.snd.out.length (itCell g_3.snd.out)], O.agg [O.d (D.v (Value.int IntKind.u32 (0 : Int))), O.d (D.v (Value.int IntKind.u16 (0 : Int))), O.d (D.v (Value.int IntKind.u16 (0 : Int))), O.d (D.v (Value.bool false)), O.d (D.v (Value.bool false)), O.d (D.v (Value.bool false)), O.d (D.ints IntKind.u8 [(1 : Int)])]] = [O.ptr (166 : Nat) [O.d (D.v (Value.int IntKind.u32 q.next)), O.own (86 : Nat) (D.recs (7 : Nat) q.wait.length (pieCell q.wait)), O.pown (169 : Nat) (171 : Nat) (11 : Nat) (some bs_6) q.out.length (itCell q.out)], O.agg [O.d (D.v (Value.int IntKind.u32 p.tsn)), O.d (D.v (Value.int IntKind.u16 p.str)), O.d (D.v (Value.int IntKind.u16 p.seq)), O.d (D.v (Value.bool p.b)), O.d (D.v (Value.bool p.e)), O.d (D.v (Value.bool p.u)), O.d (D.ints IntKind.u8 p.bytes)]] ∧
  okQ q ∧ sm p.bytes.length) ∧ ∀ (bs_6 : List Nat), bs_6.length = (pushQ (QuR.mk g_3.snd.next (piesOf (D.recs (7 : Nat) g_3.snd.wait.length (pieCell g_3.snd.wait))) (itsOf g_3.snd.out.length (itCell g_3.snd.out))) (PieR.mk (0 : Int) (0 : Int) (0 : Int) false false false [(1 : Int)])).fst.out.length →
  True ∧ sw (!decide ((pushQ (QuR.mk g_3.snd.next (piesOf (D.recs (7 : Nat) g_3.snd.wait.length (pieCell g_3.snd.wait))) (itsOf g_3.snd.out.length (itCell g_3.snd.out))) (PieR.mk (0 : Int) (0 : Int) (0 : Int) false false false [(1 : Int)])).snd.snd = (0 : Int))) (false = true ∧
  (true && true) = true) (True ∧ ∃ (g' : Nat × QuR), ((↑g'.fst : Int) ≤ g ∧ okQ g'.snd ∧ (↑(g'.snd.wait.length + g'.snd.out.length) : Int) = (256 : Int) - g + (↑g'.fst : Int)) ∧
  g.toNat - g'.fst < g.toNat - g_3.fst ∧ (IntKind.i64.wrap ((↑g_3.fst : Int) + (1 : Int)) = (↑g'.fst : Int) ∧ (pushQ (QuR.mk g_3.snd.next (piesOf (D.recs (7 : Nat) g_3.snd.wait.length (pieCell g_3.snd.wait))) (itsOf g_3.snd.out.length (itCell g_3.snd.out))) (PieR.mk (0 : Int) (0 : Int) (0 : Int) false false false [(1 : Int)])).fst.next = g'.snd.next ∧
  ((pushQ (QuR.mk g_3.snd.next (piesOf (D.recs (7 : Nat) g_3.snd.wait.length (pieCell g_3.snd.wait))) (itsOf g_3.snd.out.length (itCell g_3.snd.out))) (PieR.mk (0 : Int) (0 : Int) (0 : Int) false false false [(1 : Int)])).fst.wait.length = g'.snd.wait.length ∧
  ∀ (i : Nat), i < (pushQ (QuR.mk g_3.snd.next (piesOf (D.recs (7 : Nat) g_3.snd.wait.length (pieCell g_3.snd.wait))) (itsOf g_3.snd.out.length (itCell g_3.snd.out))) (PieR.mk (0 : Int) (0 : Int) (0 : Int) false false false [(1 : Int)])).fst.wait.length →
  ∀ (j : Nat), j < (7 : Nat) → pieCell (pushQ (QuR.mk g_3.snd.next (piesOf (D.recs (7 : Nat) g_3.snd.wait.length (pieCell g_3.snd.wait))) (itsOf g_3.snd.out.length (itCell g_3.snd.out))) (PieR.mk (0 : Int) (0 : Int) (0 : Int) false false false [(1 : Int)])).fst.wait i j = pieCell g'.snd.wait i j) ∧
  ((pushQ (QuR.mk g_3.snd.next (piesOf (D.recs (7 : Nat) g_3.snd.wait.length (pieCell g_3.snd.wait))) (itsOf g_3.snd.out.length (itCell g_3.snd.out))) (PieR.mk (0 : Int) (0 : Int) (0 : Int) false false false [(1 : Int)])).fst.out.length = g'.snd.out.length ∧
  (∀ (i : Nat), i < g'.snd.out.length → ∀ (j : Nat), j < (11 : Nat) → itCell (pushQ (QuR.mk g_3.snd.next (piesOf (D.recs (7 : Nat) g_3.snd.wait.length (pieCell g_3.snd.wait))) (itsOf g_3.snd.out.length (itCell g_3.snd.out))) (PieR.mk (0 : Int) (0 : Int) (0 : Int) false false false [(1 : Int)])).fst.out i j = itCell g'.snd.out i j) ∧
  True) ∧ (!(Nat.beq (20 : Nat) (18 : Nat) || (Nat.beq (21 : Nat) (18 : Nat) || false)) && (!(Nat.beq (21 : Nat) (20 : Nat) || false) && (!false && true)) && true && ((Nat.ble (16 : Nat) (18 : Nat) || (Nat.beq (11 : Nat) (18 : Nat) || (Nat.beq (12 : Nat) (18 : Nat) || (Nat.beq (13 : Nat) (18 : Nat) || false)))) && ((Nat.ble (16 : Nat) (20 : Nat) || (Nat.beq (11 : Nat) (20 : Nat) || (Nat.beq (12 : Nat) (20 : Nat) || (Nat.beq (13 : Nat) (20 : Nat) || false)))) && ((Nat.ble (16 : Nat) (21 : Nat) || (Nat.beq (11 : Nat) (21 : Nat) || (Nat.beq (12 : Nat) (21 : Nat) || (Nat.beq (13 : Nat) (21 : Nat) || false)))) && true)))) = true) ∧
  (some (SV.c (Value.bool (decide (IntKind.i64.wrap n < IntKind.i64.wrap g)))) = some (SV.c (Value.bool (decide (IntKind.i64.wrap n < IntKind.i64.wrap g)))) ∧
  some (SV.c (Value.int IntKind.i64 (IntKind.i64.wrap n))) = some (SV.c (Value.int IntKind.i64 (IntKind.i64.wrap n))) ∧ some (SV.c (Value.int IntKind.i64 (IntKind.i64.wrap g))) = some (SV.c (Value.int IntKind.i64 (IntKind.i64.wrap g))) ∧
  some (SV.c (Value.int IntKind.i64 (heardQ (QuR.mk g_2.snd.next (piesOf (D.recs (7 : Nat) g_2.snd.wait.length (pieCell g_2.snd.wait))) (itsOf g_2.snd.out.length (itCell g_2.snd.out))) (HeaR.mk (IntKind.u32.wrap (IntKind.u32.wrap (f + IntKind.u32.wrap (IntKind.i64.wrap g)) - (1 : Int))) (0 : Int) y [])).e)) = some (SV.c (Value.int IntKind.i64 (heardQ (QuR.mk g_2.snd.next (piesOf (D.recs (7 : Nat) g_2.snd.wait.length (pieCell g_2.snd.wait))) (itsOf g_2.snd.out.length (itCell g_2.snd.out))) (HeaR.mk (IntKind.u32.wrap (IntKind.u32.wrap (f + IntKind.u32.wrap (IntKind.i64.wrap g)) - (1 : Int))) (0 : Int) y [])).e)) ∧
  some (SV.a (15 : Nat)) = some (SV.a (15 : Nat)) ∧ some (SV.a (14 : Nat)) = some (SV.a (14 : Nat)) ∧ some (SV.c (Value.int IntKind.i64 (heardQ (QuR.mk g_2.snd.next (piesOf (D.recs (7 : Nat) g_2.snd.wait.length (pieCell g_2.snd.wait))) (itsOf g_2.snd.out.length (itCell g_2.snd.out))) (HeaR.mk (IntKind.u32.wrap (IntKind.u32.wrap (f + IntKind.u32.wrap (IntKind.i64.wrap g)) - (1 : Int))) (0 : Int) y [])).e)) = some (SV.c (Value.int IntKind.i64 (heardQ (QuR.mk g_2.snd.next (piesOf (D.recs (7 : Nat) g_2.snd.wait.length (pieCell g_2.snd.wait))) (itsOf g_2.snd.out.length (itCell g_2.snd.out))) (HeaR.mk (IntKind.u32.wrap (IntKind.u32.wrap (f + IntKind.u32.wrap (IntKind.i64.wrap g)) - (1 : Int))) (0 : Int) y [])).e)) ∧
  some (SV.a (15 : Nat)) = some (SV.a (15 : Nat)) ∧ some (SV.a (14 : Nat)) = some (SV.a (14 : Nat)) ∧ some (SV.tup [SV.a (14 : Nat), SV.a (15 : Nat), SV.c (Value.int IntKind.i64 (heardQ (QuR.mk g_2.snd.next (piesOf (D.recs (7 : Nat) g_2.snd.wait.length (pieCell g_2.snd.wait))) (itsOf g_2.snd.out.length (itCell g_2.snd.out))) (HeaR.mk (IntKind.u32.wrap (IntKind.u32.wrap (f + IntKind.u32.wrap (IntKind.i64.wrap g)) - (1 : Int))) (0 : Int) y [])).e)]) = some (SV.tup [SV.a (14 : Nat), SV.a (15 : Nat), SV.c (Value.int IntKind.i64 (heardQ (QuR.mk g_2.snd.next (piesOf (D.recs (7 : Nat) g_2.snd.wait.length (pieCell g_2.snd.wait))) (itsOf g_2.snd.out.length (itCell g_2.snd.out))) (HeaR.mk (IntKind.u32.wrap (IntKind.u32.wrap (f + IntKind.u32.wrap (IntKind.i64.wrap g)) - (1 : Int))) (0 : Int) y [])).e)]) ∧
  some (SV.tup [SV.a (14 : Nat), SV.a (15 : Nat), SV.c (Value.int IntKind.i64 (heardQ (QuR.mk g_2.snd.next (piesOf (D.recs (7 : Nat) g_2.snd.wait.length (pieCell g_2.snd.wait))) (itsOf g_2.snd.out.length (itCell g_2.snd.out))) (HeaR.mk (IntKind.u32.wrap (IntKind.u32.wrap (f + IntKind.u32.wrap (IntKind.i64.wrap g)) - (1 : Int))) (0 : Int) y [])).e)]) = some (SV.tup [SV.a (14 : Nat), SV.a (15 : Nat), SV.c (Value.int IntKind.i64 (heardQ (QuR.mk g_2.snd.next (piesOf (D.recs (7 : Nat) g_2.snd.wait.length (pieCell g_2.snd.wait))) (itsOf g_2.snd.out.length (itCell g_2.snd.out))) (HeaR.mk (IntKind.u32.wrap (IntKind.u32.wrap (f + IntKind.u32.wrap (IntKind.i64.wrap g)) - (1 : Int))) (0 : Int) y [])).e)]) ∧
  some (SV.agg [SV.c (Value.int IntKind.u32 (IntKind.u32.wrap (IntKind.u32.wrap (f + IntKind.u32.wrap (IntKind.i64.wrap g)) - (1 : Int)))), SV.c (Value.int IntKind.u32 (0 : Int)), SV.nil, SV.nil]) = some (SV.agg [SV.c (Value.int IntKind.u32 (IntKind.u32.wrap (IntKind.u32.wrap (f + IntKind.u32.wrap (IntKind.i64.wrap g)) - (1 : Int)))), SV.c (Value.int IntKind.u32 (0 : Int)), SV.nil, SV.nil]) ∧
  some (SV.c (Value.int IntKind.u32 (IntKind.u32.wrap (IntKind.u32.wrap (f + IntKind.u32.wrap (IntKind.i64.wrap g)) - (1 : Int))))) = some (SV.c (Value.int IntKind.u32 (IntKind.u32.wrap (IntKind.u32.wrap (f + IntKind.u32.wrap (IntKind.i64.wrap g)) - (1 : Int))))) ∧
  some (SV.c (Value.int IntKind.u32 (IntKind.u32.wrap (f + IntKind.u32.wrap (IntKind.i64.wrap g))))) = some (SV.c (Value.int IntKind.u32 (IntKind.u32.wrap (f + IntKind.u32.wrap (IntKind.i64.wrap g))))) ∧
  some (SV.c (Value.int IntKind.u32 (IntKind.u32.wrap (IntKind.i64.wrap g)))) = some (SV.c (Value.int IntKind.u32 (IntKind.u32.wrap (IntKind.i64.wrap g)))) ∧
  some (SV.c (Value.int IntKind.i64 (IntKind.i64.wrap g))) = some (SV.c (Value.int IntKind.i64 (IntKind.i64.wrap g))) ∧ some (SV.c (Value.int IntKind.u32 f)) = some (SV.c (Value.int IntKind.u32 f)) ∧
  some (SV.p (11 : Nat) (0 : Nat)) = some (SV.p (11 : Nat) (0 : Nat)) ∧ some (SV.c (Value.int IntKind.i64 (IntKind.i64.wrap g))) = some (SV.c (Value.int IntKind.i64 (IntKind.i64.wrap g))) ∧
  some (SV.c (Value.int IntKind.i64 (IntKind.i64.wrap g))) = some (SV.c (Value.int IntKind.i64 (IntKind.i64.wrap g))) ∧ some (SV.c (Value.int IntKind.u8 g)) = some (SV.c (Value.int IntKind.u8 g)) ∧
  some (SV.c (Value.bool (decide ((↑g_2.fst : Int) < IntKind.i64.wrap n)))) = some (SV.c (Value.bool (decide ((↑g_2.fst : Int) < IntKind.i64.wrap n)))) ∧
  some (SV.c (Value.int IntKind.i64 (IntKind.i64.wrap n))) = some (SV.c (Value.int IntKind.i64 (IntKind.i64.wrap n))) ∧ some (SV.c (Value.int IntKind.i64 (↑g_2.fst : Int))) = some (SV.c (Value.int IntKind.i64 (↑g_2.fst : Int))) ∧
  some (SV.c (Value.int IntKind.i64 (↑g_2.fst : Int))) = some (SV.c (Value.int IntKind.i64 (↑g_2.fst : Int))) ∧ some (SV.c (Value.int IntKind.i64 (IntKind.i64.wrap n))) = some (SV.c (Value.int IntKind.i64 (IntKind.i64.wrap n))) ∧
  some (SV.c (Value.int IntKind.i64 (IntKind.i64.wrap n))) = some (SV.c (Value.int IntKind.i64 (IntKind.i64.wrap n))) ∧ some (SV.c (Value.int IntKind.u8 n)) = some (SV.c (Value.int IntKind.u8 n)) ∧
  some (SV.c (Value.bool !decide (y_2.snd.snd = (10 : Int)))) = some (SV.c (Value.bool !decide (y_2.snd.snd = (10 : Int)))) ∧ some (SV.c (Value.int IntKind.i64 y_2.snd.snd)) = some (SV.c (Value.int IntKind.i64 y_2.snd.snd)) ∧
  some (SV.c (Value.int IntKind.i64 y_2.snd.snd)) = some (SV.c (Value.int IntKind.i64 y_2.snd.snd)) ∧ some (SV.c (Value.int IntKind.u32 y_2.snd.fst)) = some (SV.c (Value.int IntKind.u32 y_2.snd.fst)) ∧
  some (SV.c (Value.int IntKind.i64 y_2.snd.snd)) = some (SV.c (Value.int IntKind.i64 y_2.snd.snd)) ∧ some (SV.c (Value.int IntKind.u32 y_2.snd.fst)) = some (SV.c (Value.int IntKind.u32 y_2.snd.fst)) ∧
  some (SV.tup [SV.c (Value.int IntKind.u32 y_2.snd.fst), SV.c (Value.int IntKind.i64 y_2.snd.snd)]) = some (SV.tup [SV.c (Value.int IntKind.u32 y_2.snd.fst), SV.c (Value.int IntKind.i64 y_2.snd.snd)]) ∧
  some (SV.tup [SV.c (Value.int IntKind.u32 y_2.snd.fst), SV.c (Value.int IntKind.i64 y_2.snd.snd)]) = some (SV.tup [SV.c (Value.int IntKind.u32 y_2.snd.fst), SV.c (Value.int IntKind.i64 y_2.snd.snd)]) ∧
  some (SV.agg [SV.c (Value.int IntKind.u32 (0 : Int)), SV.c (Value.int IntKind.u16 (0 : Int)), SV.c (Value.int IntKind.u16 (0 : Int)), SV.b false, SV.b false, SV.b false, SV.a (6 : Nat)]) = some (SV.agg [SV.c (Value.int IntKind.u32 (0 : Int)), SV.c (Value.int IntKind.u16 (0 : Int)), SV.c (Value.int IntKind.u16 (0 : Int)), SV.b false, SV.b false, SV.b false, SV.a (6 : Nat)]) ∧
  some (SV.a (6 : Nat)) = some (SV.a (6 : Nat)) ∧ some (SV.p (5 : Nat) (0 : Nat)) = some (SV.p (5 : Nat) (0 : Nat)) ∧ some (SV.c (Value.bool (decide ((↑g_1.fst : Int) < (256 : Int))))) = some (SV.c (Value.bool (decide ((↑g_1.fst : Int) < (256 : Int))))) ∧
  some (SV.c (Value.int IntKind.i64 (↑g_1.fst : Int))) = some (SV.c (Value.int IntKind.i64 (↑g_1.fst : Int))) ∧ some (SV.c (Value.int IntKind.i64 (↑g_1.fst : Int))) = some (SV.c (Value.int IntKind.i64 (↑g_1.fst : Int))) ∧
  some (SV.b false) = some (SV.b false) ∧ some (SV.b false) = some (SV.b false) ∧ some (SV.p (2 : Nat) (0 : Nat)) = some (SV.p (2 : Nat) (0 : Nat)) ∧ some (SV.b false) = some (SV.b false) ∧
  some (SV.c (Value.bool !true)) = some (SV.c (Value.bool !true)) ∧ some (SV.c (Value.bool true)) = some (SV.c (Value.bool true)) ∧ some (SV.p (2 : Nat) (0 : Nat)) = some (SV.p (2 : Nat) (0 : Nat)) ∧
  some (SV.c (Value.int IntKind.u32 f)) = some (SV.c (Value.int IntKind.u32 f)) ∧ some (SV.c (Value.int IntKind.u32 f)) = some (SV.c (Value.int IntKind.u32 f)) ∧
  some (SV.c (Value.int IntKind.u8 n)) = some (SV.c (Value.int IntKind.u8 n)) ∧ some (SV.c (Value.int IntKind.u8 g)) = some (SV.c (Value.int IntKind.u8 g)) ∧
  True) ∧ some (R.own (3 : Nat) (D.ints IntKind.i64 (heardQ (QuR.mk g_2.snd.next (piesOf (D.recs (7 : Nat) g_2.snd.wait.length (pieCell g_2.snd.wait))) (itsOf g_2.snd.out.length (itCell g_2.snd.out))) (HeaR.mk (IntKind.u32.wrap (IntKind.u32.wrap (f + IntKind.u32.wrap (IntKind.i64.wrap g)) - (1 : Int))) (0 : Int) y [])).fast)) = some (R.own (3 : Nat) (D.ints IntKind.i64 (heardQ (QuR.mk g_2.snd.next (piesOf (D.recs (7 : Nat) g_2.snd.wait.length (pieCell g_2.snd.wait))) (itsOf g_2.snd.out.length (itCell g_2.snd.out))) (HeaR.mk (IntKind.u32.wrap (IntKind.u32.wrap (f + IntKind.u32.wrap (IntKind.i64.wrap g)) - (1 : Int))) (0 : Int) y [])).fast)) ∧
  some (R.own (3 : Nat) (D.ints IntKind.i64 (heardQ (QuR.mk g_2.snd.next (piesOf (D.recs (7 : Nat) g_2.snd.wait.length (pieCell g_2.snd.wait))) (itsOf g_2.snd.out.length (itCell g_2.snd.out))) (HeaR.mk (IntKind.u32.wrap (IntKind.u32.wrap (f + IntKind.u32.wrap (IntKind.i64.wrap g)) - (1 : Int))) (0 : Int) y [])).ac)) = some (R.own (3 : Nat) (D.ints IntKind.i64 (heardQ (QuR.mk g_2.snd.next (piesOf (D.recs (7 : Nat) g_2.snd.wait.length (pieCell g_2.snd.wait))) (itsOf g_2.snd.out.length (itCell g_2.snd.out))) (HeaR.mk (IntKind.u32.wrap (IntKind.u32.wrap (f + IntKind.u32.wrap (IntKind.i64.wrap g)) - (1 : Int))) (0 : Int) y [])).ac)) ∧
  some R.dead = some R.dead ∧ some R.dead = some R.dead ∧ some R.dead = some R.dead ∧ some R.dead = some R.dead ∧ some R.dead = some R.dead ∧ some R.dead = some R.dead ∧
  some R.dead = some R.dead ∧ some (R.ro (D.ints IntKind.u8 [(1 : Int)])) = some (R.ro (D.ints IntKind.u8 [(1 : Int)])) ∧ some R.dead = some R.dead ∧ some R.dead = some R.dead ∧
  some R.dead = some R.dead ∧ True)) ((∃ (bs_6 : List Nat), ∃ (q : QuR), ∃ (p : PieR), [O.ptr (166 : Nat) [O.d (D.v (Value.int IntKind.u32 g_3.snd.next)), O.own (86 : Nat) (D.recs (7 : Nat) g_3.snd.wait.length (pieCell g_3.snd.wait)), O.pown (169 : Nat) (171 : Nat) (11 : Nat) (some bs_5) g_3.snd.out.length (itCell g_3.snd.out)], O.agg [O.d (D.v (Value.int IntKind.u32 (0 : Int))), O.d (D.v (Value.int IntKind.u16 (0 : Int))), O.d (D.v (Value.int IntKind.u16 (0 : Int))), O.d (D.v (Value.bool false)), O.d (D.v (Value.bool false)), O.d (D.v (Value.bool false)), O.d (D.ints IntKind.u8 [(1 : Int)])]] = [O.ptr (166 : Nat) [O.d (D.v (Value.int IntKind.u32 q.next)), O.own (86 : Nat) (D.recs (7 : Nat) q.wait.length (pieCell q.wait)), O.pown (169 : Nat) (171 : Nat) (11 : Nat) (some bs_6) q.out.length (itCell q.out)], O.agg [O.d (D.v (Value.int IntKind.u32 p.tsn)), O.d (D.v (Value.int IntKind.u16 p.str)), O.d (D.v (Value.int IntKind.u16 p.seq)), O.d (D.v (Value.bool p.b)), O.d (D.v (Value.bool p.e)), O.d (D.v (Value.bool p.u)), O.d (D.ints IntKind.u8 p.bytes)]] ∧
  okQ q ∧ sm p.bytes.length) ∧ ∀ (bs_6 : List Nat), bs_6.length = (pushQ (QuR.mk g_3.snd.next (piesOf (D.recs (7 : Nat) g_3.snd.wait.length (pieCell g_3.snd.wait))) (itsOf g_3.snd.out.length (itCell g_3.snd.out))) (PieR.mk (0 : Int) (0 : Int) (0 : Int) false false false [(1 : Int)])).fst.out.length →
  True ∧ sw (decide ((heardQ (QuR.mk g_2.snd.next (piesOf (D.recs (7 : Nat) g_2.snd.wait.length (pieCell g_2.snd.wait))) (itsOf g_2.snd.out.length (itCell g_2.snd.out))) (HeaR.mk (IntKind.u32.wrap (IntKind.u32.wrap (f + IntKind.u32.wrap (IntKind.i64.wrap g)) - (1 : Int))) (0 : Int) y [])).e = (0 : Int))) (SV.c (Value.int IntKind.i64 (pushQ (QuR.mk g_3.snd.next (piesOf (D.recs (7 : Nat) g_3.snd.wait.length (pieCell g_3.snd.wait))) (itsOf g_3.snd.out.length (itCell g_3.snd.out))) (PieR.mk (0 : Int) (0 : Int) (0 : Int) false false false [(1 : Int)])).snd.snd) = SV.c (Value.int IntKind.i64 (pushQ (QuR.mk g_3.snd.next (piesOf (D.recs (7 : Nat) g_3.snd.wait.length (pieCell g_3.snd.wait))) (itsOf g_3.snd.out.length (itCell g_3.snd.out))) (PieR.mk (0 : Int) (0 : Int) (0 : Int) false false false [(1 : Int)])).snd.snd)) True ∧
  sw (decide ((heardQ (QuR.mk g_2.snd.next (piesOf (D.recs (7 : Nat) g_2.snd.wait.length (pieCell g_2.snd.wait))) (itsOf g_2.snd.out.length (itCell g_2.snd.out))) (HeaR.mk (IntKind.u32.wrap (IntKind.u32.wrap (f + IntKind.u32.wrap (IntKind.i64.wrap g)) - (1 : Int))) (0 : Int) y [])).e = (0 : Int))) ([decide ((heardQ (QuR.mk g_2.snd.next (piesOf (D.recs (7 : Nat) g_2.snd.wait.length (pieCell g_2.snd.wait))) (itsOf g_2.snd.out.length (itCell g_2.snd.out))) (HeaR.mk (IntKind.u32.wrap (IntKind.u32.wrap (f + IntKind.u32.wrap (IntKind.i64.wrap g)) - (1 : Int))) (0 : Int) y [])).e = (0 : Int))] = [decide ((heardQ (QuR.mk g_2.snd.next (piesOf (D.recs (7 : Nat) g_2.snd.wait.length (pieCell g_2.snd.wait))) (itsOf g_2.snd.out.length (itCell g_2.snd.out))) (HeaR.mk (IntKind.u32.wrap (IntKind.u32.wrap (f + IntKind.u32.wrap (IntKind.i64.wrap g)) - (1 : Int))) (0 : Int) y [])).e = (0 : Int))] ∧
  True ∧ SV.c (Value.bool (decide ((pushQ (QuR.mk g_3.snd.next (piesOf (D.recs (7 : Nat) g_3.snd.wait.length (pieCell g_3.snd.wait))) (itsOf g_3.snd.out.length (itCell g_3.snd.out))) (PieR.mk (0 : Int) (0 : Int) (0 : Int) false false false [(1 : Int)])).snd.snd = (10 : Int)))) = SV.c (Value.bool (decide ((pushQ (QuR.mk g_3.snd.next (piesOf (D.recs (7 : Nat) g_3.snd.wait.length (pieCell g_3.snd.wait))) (itsOf g_3.snd.out.length (itCell g_3.snd.out))) (PieR.mk (0 : Int) (0 : Int) (0 : Int) false false false [(1 : Int)])).snd.snd = (10 : Int))))) True ∧
  [decide ((heardQ (QuR.mk g_2.snd.next (piesOf (D.recs (7 : Nat) g_2.snd.wait.length (pieCell g_2.snd.wait))) (itsOf g_2.snd.out.length (itCell g_2.snd.out))) (HeaR.mk (IntKind.u32.wrap (IntKind.u32.wrap (f + IntKind.u32.wrap (IntKind.i64.wrap g)) - (1 : Int))) (0 : Int) y [])).e = (0 : Int))] = [decide ((heardQ (QuR.mk g_2.snd.next (piesOf (D.recs (7 : Nat) g_2.snd.wait.length (pieCell g_2.snd.wait))) (itsOf g_2.snd.out.length (itCell g_2.snd.out))) (HeaR.mk (IntKind.u32.wrap (IntKind.u32.wrap (f + IntKind.u32.wrap (IntKind.i64.wrap g)) - (1 : Int))) (0 : Int) y [])).e = (0 : Int))] ∧
  (decide ((heardQ (QuR.mk g_2.snd.next (piesOf (D.recs (7 : Nat) g_2.snd.wait.length (pieCell g_2.snd.wait))) (itsOf g_2.snd.out.length (itCell g_2.snd.out))) (HeaR.mk (IntKind.u32.wrap (IntKind.u32.wrap (f + IntKind.u32.wrap (IntKind.i64.wrap g)) - (1 : Int))) (0 : Int) y [])).e = (0 : Int)) && decide ((pushQ (QuR.mk g_3.snd.next (piesOf (D.recs (7 : Nat) g_3.snd.wait.length (pieCell g_3.snd.wait))) (itsOf g_3.snd.out.length (itCell g_3.snd.out))) (PieR.mk (0 : Int) (0 : Int) (0 : Int) false false false [(1 : Int)])).snd.snd = (10 : Int))) = true ∧
  (true && true) = true))))) := by
  simp only [↓sw_iff, ↓Bool.and_eq_true, ↓decide_eq_true_eq, ↓decide_eq_false_iff_not, ↓Bool.not_eq_true', ↓Bool.not_eq_false', true_and, and_true, implies_true, Bool.not_true, Bool.or_false, Nat.ble, Nat.beq, piesOf_pies, itsOf_its, qu_eta, u32w]
  intro f n g hf hn hg
  have e1 : IntKind.i64.wrap g = g := wrap_i64_id (by omega) (by omega)
  have e2 : IntKind.i64.wrap n = n := wrap_i64_id (by omega) (by omega)
  simp only [e1, e2, u32_add, size43, gaps0, plain_mk]
  have b1 (x : Int) : 0 < (PieR.mk 0 0 0 false false false [x]).bytes.length ∧ (PieR.mk 0 0 0 false false false [x]).bytes.length ≤ 256 := ⟨show 0 < 1 by decide, show 1 ≤ 256 by decide⟩
  have s1 (x : Int) : sm (PieR.mk 0 0 0 false false false [x]).bytes.length := by unfold sm; show 1 ≤ _; decide
  refine ⟨⟨f, rfl⟩, fun bs _ => ⟨(0, newQ f), ⟨by omega, okQ_new hf, ?_, rfl, rfl⟩, rfl, rfl, ⟨rfl, fun i hi j hj => rfl⟩, ⟨rfl, fun i hi j hj => rfl⟩, fun j hj bs1 _ => ⟨fun hlt => ?_, fun hge => ?_⟩⟩⟩
  · show f = u32 (f + 0)
    unfold u32
    omega
  · obtain ⟨i, q⟩ := j
    obtain ⟨h1, h2, h3, h4, h5⟩ := hj
    simp only at h1 h2 h3 h4 h5 hlt ⊢
    obtain ⟨p1, p2⟩ := okQ_push h2 (b1 (IntKind.u8.wrap i)) (by rw [h4, h5]; simp only [List.length_nil]; omega)
    have w : IntKind.i64.wrap ((i : Int) + 1) = ((i + 1 : Nat) : Int) := wrap_i64_id (by omega) (by omega)
    rw [p1] at p2 ⊢
    refine ⟨⟨bs1, q, PieR.mk 0 0 0 false false false [IntKind.u8.wrap i], rfl, h2, s1 _⟩, fun bs2 _ => ⟨fun hx => ?_, fun _ => ⟨(i + 1, _), ⟨by omega, p2, ?_, ?_, h5⟩, by omega, w, rfl, ⟨rfl, fun i hi a ha => rfl⟩, rfl, fun i hi a ha => rfl⟩⟩⟩
    · simp [h3] at hx
    · show u32 (q.next + 1) = u32 (f + ((i + 1 : Nat) : Int))
      rw [h3, u32_succ, Int.add_assoc]
      rfl
    · show (q.wait ++ _).length = i + 1
      rw [List.length_append, h4]
      rfl
  · obtain ⟨i, q⟩ := j
    obtain ⟨h1, h2, h3, h4, h5⟩ := hj
    simp only at h1 h2 h3 h4 h5 hge ⊢
    obtain rfl : i = 256 := by omega
    have pf := pushQ_full (q := q) (b1 1) (by rw [h4]; omega)
    rw [pf]
    refine ⟨⟨bs1, q, PieR.mk 0 0 0 false false false [1], rfl, h2, s1 _⟩, fun bs2 _ => ⟨fun hx => absurd rfl hx, fun _ => ⟨(0, q), ⟨by omega, h2, ?_, h3, h4, ?_, ?_⟩, rfl, rfl, ⟨rfl, fun i hi a ha => rfl⟩, ⟨rfl, fun i hi a ha => rfl⟩, ?_⟩⟩⟩
    · intro x hx
      rw [h5] at hx
      exact absurd hx (by simp)
    · show q.out.length = 0
      rw [h5]
      rfl
    · show markQ q.out = none
      rw [h5]
      rfl
    clear h1 h2 h3 h4 h5 pf hge
    intro j hj bs3 _
    obtain ⟨i, q⟩ := j
    obtain ⟨h1, h2, h3, h4, h5, h6, h7⟩ := hj
    simp only at h1 h2 h3 h4 h5 h6 h7 ⊢
    refine ⟨fun hlt => ⟨⟨bs3, q, 0, rfl, h2⟩, fun bs4 _ => ?_⟩, fun hge => ?_⟩
    · cases hw : q.wait with
      | nil =>
        rw [hw] at h5
        simp only [List.length_nil] at h5
        omega
      | cons x l =>
        rw [nextQ_cons h7 hw]
        have w : IntKind.i64.wrap ((i : Int) + 1) = ((i + 1 : Nat) : Int) := wrap_i64_id (by omega) (by omega)
        rw [hw] at h5
        simp only [List.length_cons] at h5
        exact ⟨(i + 1, _), ⟨by omega, okQ_next h2 hw, oneP_app h3, h4, by show l.length = _; omega, by simp [h6], markQ_app h7 rfl⟩, by omega, w, rfl, ⟨rfl, fun i hi a ha => rfl⟩, rfl, fun i hi a ha => rfl⟩
    · have hin : (i : Int) = n := by omega
      refine ⟨⟨bs3, q, plainH (u32 (u32 (f + g) - 1)), _, _, _, rfl, gaps0_is, h2, h3, plain_ok (u32_lo _)⟩, fun bs4 _ => ⟨fun hlt => full_old h4 (by omega) h6 hg (by omega), fun hnl => ?_⟩⟩
      obtain ⟨f1, f2, f3⟩ := full_heard h2 h4 (by omega) h6 hg (by omega)
      refine ⟨(0, (heardQ q (plainH (u32 (u32 (f + g) - 1)))).q), ⟨by omega, f2, ?_⟩, rfl, rfl, ⟨rfl, fun i hi a ha => rfl⟩, ⟨rfl, fun i hi a ha => rfl⟩, ?_⟩
      · simp only
        omega
      rw [f1]
      intro j hj bs5 _
      obtain ⟨i', q'⟩ := j
      obtain ⟨k1, k2, k3⟩ := hj
      simp only at k1 k2 k3 ⊢
      have pl {q : QuR} {p : PieR} : ((q.wait ++ [p]).length + q.out.length : Nat) = q.wait.length + q.out.length + 1 := by simp only [List.length_append, List.length_singleton]; omega
      refine ⟨fun hlt => ?_, fun hge => ?_⟩
      · obtain ⟨p1, p2⟩ := okQ_push k2 (b1 1) (by omega)
        have w : IntKind.i64.wrap ((i' : Int) + 1) = ((i' + 1 : Nat) : Int) := wrap_i64_id (by omega) (by omega)
        rw [p1] at p2 ⊢
        exact ⟨⟨bs5, q', PieR.mk 0 0 0 false false false [1], rfl, k2, s1 _⟩, fun bs6 _ => ⟨fun hx => absurd rfl hx, fun _ => ⟨(i' + 1, _), ⟨by simp only; omega, p2, by simp only [pl]; omega⟩, by simp only; omega, w, rfl, ⟨rfl, fun i hi a ha => rfl⟩, rfl, fun i hi a ha => rfl⟩⟩⟩
      · have pf := pushQ_full (q := q') (b1 1) (by omega)
        rw [pf]
        refine ⟨⟨bs5, q', PieR.mk 0 0 0 false false false [1], rfl, k2, s1 _⟩, fun bs6 _ => ?_⟩
        simp
set_option maxRecDepth 100000 in
theorem ok11 : FnIs Try.prog 11 fullC := by
  refine fnIs (C := (ctrs n5)) (by kernel_rfl) n5_ok Try.func11 (code := code11) (by kernel_rfl) (by kernel_rfl) ?_
  rintro a ⟨f, n, g, rfl, hf, hn, hg⟩
  exact ⟨anns [(5, full1 f), (15, full2 f n), (23, full3 g)] [2], kcast (vc11 f n g hf hn hg) (by kernel_rfl)⟩

end Go.ZR
