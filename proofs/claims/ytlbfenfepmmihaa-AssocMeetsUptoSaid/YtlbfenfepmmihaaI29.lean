/- Part 29 of what the closing text rests on. -/
import Derived.Test.YtlbfenfepmmihaaI24
import Derived.Test.YtlbfenfepmmihaaI28
import Derived.Test.YtlbfenfepmmihaaRows
namespace Go.ZR
open Go.Proofs
open Go.Z Go.ZM Go.RowKit
set_option maxRecDepth 100000
theorem newG_ok {k l r t : Int} (hk : 0 ≤ k ∧ k ≤ 18446744073709551615) (hl : 1 ≤ l ∧ l ≤ 1048576) (hr : 1 ≤ r ∧ r ≤ 1048576) (ht : 0 ≤ t ∧ t ≤ 100) : okAs (newG k l r t) := by
  refine ⟨hk, ⟨?_, ?_⟩, hl, hr, ht, okLt_no, ⟨?_, ?_⟩, ⟨?_, ?_⟩, ⟨?_, ?_⟩, okU0, okU0, okU0, okU0, fun _ => ⟨rfl, rfl, rfl, rfl, rfl, rfl, rfl, rfl, rfl⟩⟩
  all_goals (simp only [newG]; omega)
theorem l8_ok : COk Try.prog (ctrs l8) := cok_cons ok36 (cok_cons ok66 cok_nil)
theorem l9_ok : COk Try.prog (ctrs l9) := cok_cons ok66 (cok_cons ok29 (cok_cons ok35 cok_nil))
theorem grown_0 (l : List MvR) : grownF l 0 = pr1 := rfl
theorem pr1_a : pr1.a = newG (drF (nxt 0) * 4294967296) 200 12 8 := rfl
theorem pr1_b : pr1.b = newG (drF (nxt (nxt 0)) * 4294967296) 200 12 8 := rfl
noncomputable def iGc27 : Code := match Try.f27.body with | some c => c | none => .skip
noncomputable def iG_27 : InlF := ⟨iGc27, Try.f27.ntmps, Try.f27.results.toList, anns []⟩
noncomputable def iGc28 : Code := match Try.f28.body with | some c => c | none => .skip
noncomputable def iG_28 : InlF := ⟨iGc28, Try.f28.ntmps, Try.f28.results.toList, anns []⟩
noncomputable def iG : List (Nat × InlF) := [(27, iG_27), (28, iG_28)]
theorem iG_ok : InlsOk Try.prog iG := ⟨inlOk Try.func27 (by kernel_rfl) (by kernel_rfl), inlOk Try.func28 (by kernel_rfl) (by kernel_rfl), trivial⟩
noncomputable def code25 : Code := match Try.f25.body with | some c => c | none => .skip
@[reducible] noncomputable def q25_0 : List O := [iO .i64 (200 : Int), iO .i64 (12 : Int), iO .i64 (8 : Int)]
@[reducible] noncomputable def q25_1 (x0 : Int) (x1 : Int) (x2 : Int) (x3 : Int) : List O := [iO .u64 x0, iO .i64 x1, iO .i64 x2, iO .i64 x3]
@[reducible] def q25_2 : Prop := (0 : Int) ≤ (0 : Int) ∧ (0 : Int) < (↑(2 : Nat) : Int)
@[reducible] def q25_3 : Prop := (0 : Int) ≤ (1 : Int) ∧ (1 : Int) < (↑(2 : Nat) : Int)
@[reducible] noncomputable def q25_4 (x0 : Nat) : Int := (↑x0 : Int)
@[reducible] def q25_5 : Prop := (0 : Nat) = (0 : Nat) ∧ ∀ (i : Nat), i < (0 : Nat) → ∀ (j : Nat), j < (4 : Nat) → ltrCell noOut.pk i j = ltrCell noOut.pk i j
@[reducible] def q25_6 : Prop := noOut.ev = noOut.ev
@[reducible] noncomputable def q25_8 : List O := [O.own 142 (D.recs 4 (0 : Nat) (ltrCell noOut.pk)), O.own 3 (D.ints IntKind.i64 noOut.ev)]
@[reducible] noncomputable def q25_9 (x0 : List MvR) (x1 : Nat) : MvR := x0.getD (q25_4 x1).toNat noMv
@[reducible] noncomputable def q25_10 (x0 : List MvR) (x1 : Nat) : PrR := moveF (PrR.mk (grownF x0 x1).a (grownF x0 x1).b (ltrsOf (D.recs 4 (grownF x0 x1).v.length (ltrCell (grownF x0 x1).v))) (ltrsOf (D.recs 4 (grownF x0 x1).w.length (ltrCell (grownF x0 x1).w))) (grownF x0 x1).now (grownF x0 x1).draw (grownF x0 x1).u (grownF x0 x1).t) (q25_9 x0 x1)
@[reducible] def q25_11 : Prop := some (SV.b false) = some (SV.b false)
@[reducible] def q25_12 : Prop := some (SV.p (1 : Nat) (2 : Nat)) = some (SV.p (1 : Nat) (2 : Nat))
@[reducible] def q25_13 : Prop := some (SV.p (1 : Nat) (0 : Nat)) = some (SV.p (1 : Nat) (0 : Nat))
@[reducible] noncomputable def q25_14 : SV := SV.c (Value.pointer none)
@[reducible] noncomputable def q25_15 : Option SV := some (SV.agg [q25_14, q25_14, q25_14, q25_14, SV.nil, SV.nil, SV.c (Value.int IntKind.i64 (0 : Int)), SV.c (Value.int IntKind.u32 (0 : Int)), SV.b false, SV.b false, SV.b false])
@[reducible] def q25_16 (x0 : AsR) : Prop := some (R.ro (D.ints IntKind.u8 x0.lch.v)) = some (R.ro (D.ints IntKind.u8 x0.lch.v))
@[reducible] def q25_17 (x0 : List MvR) (x1 : Nat) (x2 : PrR) : Prop := (grownF x0 x1).a.key = x2.a.key ∧ (grownF x0 x1).a.win = x2.a.win ∧ (grownF x0 x1).a.life = x2.a.life ∧
  (grownF x0 x1).a.rto = x2.a.rto ∧ (grownF x0 x1).a.tries = x2.a.tries ∧ (grownF x0 x1).a.st = x2.a.st ∧ (grownF x0 x1).a.mt = x2.a.mt ∧ (grownF x0 x1).a.pt = x2.a.pt ∧
  (grownF x0 x1).a.ms = x2.a.ms ∧ (grownF x0 x1).a.ps = x2.a.ps ∧ (grownF x0 x1).a.ltag = x2.a.ltag ∧ (grownF x0 x1).a.lch.t = x2.a.lch.t ∧ (grownF x0 x1).a.lch.f = x2.a.lch.f ∧
  (grownF x0 x1).a.lch.v = x2.a.lch.v ∧ (grownF x0 x1).a.set = x2.a.set ∧ (grownF x0 x1).a.at_ = x2.a.at_ ∧ (grownF x0 x1).a.left = x2.a.left ∧ (grownF x0 x1).b.key = x2.b.key ∧
  (grownF x0 x1).b.win = x2.b.win ∧ (grownF x0 x1).b.life = x2.b.life ∧ (grownF x0 x1).b.rto = x2.b.rto ∧ (grownF x0 x1).b.tries = x2.b.tries ∧ (grownF x0 x1).b.st = x2.b.st ∧
  (grownF x0 x1).b.mt = x2.b.mt ∧ (grownF x0 x1).b.pt = x2.b.pt ∧ (grownF x0 x1).b.ms = x2.b.ms ∧ (grownF x0 x1).b.ps = x2.b.ps ∧ (grownF x0 x1).b.ltag = x2.b.ltag ∧
  (grownF x0 x1).b.lch.t = x2.b.lch.t ∧ (grownF x0 x1).b.lch.f = x2.b.lch.f ∧ (grownF x0 x1).b.lch.v = x2.b.lch.v ∧ (grownF x0 x1).b.set = x2.b.set ∧ (grownF x0 x1).b.at_ = x2.b.at_ ∧
  (grownF x0 x1).b.left = x2.b.left ∧ (grownF x0 x1).a.key = x2.a.key ∧ (grownF x0 x1).a.win = x2.a.win ∧ (grownF x0 x1).a.life = x2.a.life ∧ (grownF x0 x1).a.rto = x2.a.rto ∧
  (grownF x0 x1).a.tries = x2.a.tries ∧ (grownF x0 x1).a.ltag = x2.a.ltag ∧ (grownF x0 x1).a.lch.t = x2.a.lch.t ∧ (grownF x0 x1).a.lch.f = x2.a.lch.f ∧ (grownF x0 x1).a.lch.v = x2.a.lch.v ∧
  (grownF x0 x1).a.at_ = x2.a.at_ ∧ (grownF x0 x1).a.left = x2.a.left ∧ (grownF x0 x1).a.set = x2.a.set ∧ (grownF x0 x1).a.st = x2.a.st ∧ (grownF x0 x1).a.mt = x2.a.mt ∧
  (grownF x0 x1).a.ms = x2.a.ms ∧ (grownF x0 x1).a.pt = x2.a.pt ∧ (grownF x0 x1).a.ps = x2.a.ps ∧ q25_5 ∧ q25_6 ∧ (grownF x0 x1).b.key = x2.b.key ∧ (grownF x0 x1).b.win = x2.b.win ∧
  (grownF x0 x1).b.life = x2.b.life ∧ (grownF x0 x1).b.rto = x2.b.rto ∧ (grownF x0 x1).b.tries = x2.b.tries ∧ (grownF x0 x1).b.ltag = x2.b.ltag ∧ (grownF x0 x1).b.lch.t = x2.b.lch.t ∧
  (grownF x0 x1).b.lch.f = x2.b.lch.f ∧ (grownF x0 x1).b.lch.v = x2.b.lch.v ∧ (grownF x0 x1).b.at_ = x2.b.at_ ∧ (grownF x0 x1).b.left = x2.b.left ∧ (grownF x0 x1).b.set = x2.b.set ∧
  (grownF x0 x1).b.st = x2.b.st ∧ (grownF x0 x1).b.mt = x2.b.mt ∧ (grownF x0 x1).b.ms = x2.b.ms ∧ (grownF x0 x1).b.pt = x2.b.pt ∧ (grownF x0 x1).b.ps = x2.b.ps ∧
  q25_5 ∧ q25_6 ∧ ((grownF x0 x1).v.length = x2.v.length ∧ ∀ (i : Nat), i < (grownF x0 x1).v.length → ∀ (j : Nat), j < (4 : Nat) → ltrCell (grownF x0 x1).v i j = ltrCell x2.v i j) ∧
  ((grownF x0 x1).w.length = x2.w.length ∧ ∀ (i : Nat), i < (grownF x0 x1).w.length → ∀ (j : Nat), j < (4 : Nat) → ltrCell (grownF x0 x1).w i j = ltrCell x2.w i j) ∧
  (grownF x0 x1).now = x2.now ∧ (grownF x0 x1).draw = x2.draw ∧ false = false ∧ (grownF x0 x1).u = x2.u ∧ (grownF x0 x1).t = x2.t ∧ (true && true && true) = true
@[reducible] noncomputable def q25_18 : AsR := newG (7 : Int) (100 : Int) (10 : Int) (3 : Int)
@[reducible] noncomputable def q25_19 : AsR := (greetA (AsR.mk q25_18.key q25_18.win q25_18.life q25_18.rto q25_18.tries q25_18.ltag q25_18.lch q25_18.at_ q25_18.left q25_18.set q25_18.st (5 : Int) (6 : Int) q25_18.pt q25_18.ps) (0 : Int)).fst
set_option maxHeartbeats 4000000 in
theorem vc25 : have y := newG (IntKind.u64.wrap (IntKind.u64.wrap (IntKind.u32.wrap (IntKind.u32.wrap ((0 : Int) + (1 : Int)) * (2654435769 : Int))) * (2 : Int) ^ min (Int.toNat (32 : Int)) IntKind.u64.bits)) (200 : Int) (12 : Int) (8 : Int);
  have y_1 := newG (IntKind.u64.wrap (IntKind.u64.wrap (IntKind.u32.wrap (IntKind.u32.wrap (IntKind.u32.wrap ((0 : Int) + (1 : Int)) + (1 : Int)) * (2654435769 : Int))) * (2 : Int) ^ min (Int.toNat (32 : Int)) IntKind.u64.bits)) (200 : Int) (12 : Int) (8 : Int);
  ∀ (l : List MvR), have y_2 := mvsOf (D.recs 3 l.length (mvCell l)); have y_3 := grownF y_2 (min (120 : Nat) y_2.length); l.length ≤ (1073741824 : Nat) →
  (True ∧ True ∧ (0 : Int) ≤ (32 : Int) ∧ ((∃ (k : Int), ∃ (l_1 : Int), ∃ (r : Int), ∃ (t : Int), iO .u64 (IntKind.u64.wrap (IntKind.u64.wrap (IntKind.u32.wrap (IntKind.u32.wrap ((0 : Int) + (1 : Int)) * (2654435769 : Int))) * (2 : Int) ^ min (Int.toNat (32 : Int)) IntKind.u64.bits)) :: q25_0 = q25_1 k l_1 r t ∧
  ((1 : Int) ≤ l_1 ∧ l_1 ≤ (1048576 : Int)) ∧ ((1 : Int) ≤ r ∧ r ≤ (1048576 : Int)) ∧ (0 : Int) ≤ t ∧ t ≤ (100 : Int)) ∧ q25_2 ∧ (q25_2 ∧ ((True ∧ True ∧
  (0 : Int) ≤ (32 : Int) ∧ ((∃ (k : Int), ∃ (l_1 : Int), ∃ (r : Int), ∃ (t : Int), iO .u64 (IntKind.u64.wrap (IntKind.u64.wrap (IntKind.u32.wrap (IntKind.u32.wrap (IntKind.u32.wrap ((0 : Int) + (1 : Int)) + (1 : Int)) * (2654435769 : Int))) * (2 : Int) ^ min (Int.toNat (32 : Int)) IntKind.u64.bits)) :: q25_0 = q25_1 k l_1 r t ∧
  ((1 : Int) ≤ l_1 ∧ l_1 ≤ (1048576 : Int)) ∧ ((1 : Int) ≤ r ∧ r ≤ (1048576 : Int)) ∧ (0 : Int) ≤ t ∧ t ≤ (100 : Int)) ∧ q25_3 ∧ (q25_3 ∧ (q25_2 ∧ q25_3 ∧
  ∃ (g0 : Nat), g0 ≤ min (120 : Nat) l.length ∧ (0 : Int) = q25_4 g0 ∧ y.key = (grownF l g0).a.key ∧ y.win = (grownF l g0).a.win ∧ y.life = (grownF l g0).a.life ∧
  y.rto = (grownF l g0).a.rto ∧ y.tries = (grownF l g0).a.tries ∧ y.st = (grownF l g0).a.st ∧ y.mt = (grownF l g0).a.mt ∧ y.pt = (grownF l g0).a.pt ∧ y.ms = (grownF l g0).a.ms ∧
  y.ps = (grownF l g0).a.ps ∧ y.ltag = (grownF l g0).a.ltag ∧ y.lch.t = (grownF l g0).a.lch.t ∧ y.lch.f = (grownF l g0).a.lch.f ∧ y.lch.v = (grownF l g0).a.lch.v ∧
  y.set = (grownF l g0).a.set ∧ y.at_ = (grownF l g0).a.at_ ∧ y.left = (grownF l g0).a.left ∧ y_1.key = (grownF l g0).b.key ∧ y_1.win = (grownF l g0).b.win ∧
  y_1.life = (grownF l g0).b.life ∧ y_1.rto = (grownF l g0).b.rto ∧ y_1.tries = (grownF l g0).b.tries ∧ y_1.st = (grownF l g0).b.st ∧ y_1.mt = (grownF l g0).b.mt ∧
  y_1.pt = (grownF l g0).b.pt ∧ y_1.ms = (grownF l g0).b.ms ∧ y_1.ps = (grownF l g0).b.ps ∧ y_1.ltag = (grownF l g0).b.ltag ∧ y_1.lch.t = (grownF l g0).b.lch.t ∧
  y_1.lch.f = (grownF l g0).b.lch.f ∧ y_1.lch.v = (grownF l g0).b.lch.v ∧ y_1.set = (grownF l g0).b.set ∧ y_1.at_ = (grownF l g0).b.at_ ∧ y_1.left = (grownF l g0).b.left ∧
  y.key = (grownF l g0).a.key ∧ y.win = (grownF l g0).a.win ∧ y.life = (grownF l g0).a.life ∧ y.rto = (grownF l g0).a.rto ∧ y.tries = (grownF l g0).a.tries ∧
  y.ltag = (grownF l g0).a.ltag ∧ y.lch.t = (grownF l g0).a.lch.t ∧ y.lch.f = (grownF l g0).a.lch.f ∧ y.lch.v = (grownF l g0).a.lch.v ∧ y.at_ = (grownF l g0).a.at_ ∧
  y.left = (grownF l g0).a.left ∧ y.set = (grownF l g0).a.set ∧ y.st = (grownF l g0).a.st ∧ y.mt = (grownF l g0).a.mt ∧ y.ms = (grownF l g0).a.ms ∧ y.pt = (grownF l g0).a.pt ∧
  y.ps = (grownF l g0).a.ps ∧ q25_5 ∧ q25_6 ∧ y_1.key = (grownF l g0).b.key ∧ y_1.win = (grownF l g0).b.win ∧ y_1.life = (grownF l g0).b.life ∧ y_1.rto = (grownF l g0).b.rto ∧
  y_1.tries = (grownF l g0).b.tries ∧ y_1.ltag = (grownF l g0).b.ltag ∧ y_1.lch.t = (grownF l g0).b.lch.t ∧ y_1.lch.f = (grownF l g0).b.lch.f ∧ y_1.lch.v = (grownF l g0).b.lch.v ∧
  y_1.at_ = (grownF l g0).b.at_ ∧ y_1.left = (grownF l g0).b.left ∧ y_1.set = (grownF l g0).b.set ∧ y_1.st = (grownF l g0).b.st ∧ y_1.mt = (grownF l g0).b.mt ∧
  y_1.ms = (grownF l g0).b.ms ∧ y_1.pt = (grownF l g0).b.pt ∧ y_1.ps = (grownF l g0).b.ps ∧ q25_5 ∧ q25_6 ∧ (grownF l g0).v.length = (0 : Nat) ∧ (grownF l g0).w.length = (0 : Nat) ∧
  (0 : Int) = (grownF l g0).now ∧ IntKind.u32.wrap (IntKind.u32.wrap ((0 : Int) + (1 : Int)) + (1 : Int)) = (grownF l g0).draw ∧ false = false ∧ false = (grownF l g0).u ∧
  false = (grownF l g0).t ∧ (true && true && true) = true ∧
  ∀ (g : Nat), g ≤ min (120 : Nat) l.length → True ∧ sw (decide (q25_4 g < (↑l.length : Int))) (True ∧ sw (decide (q25_4 g < (120 : Int))) (((0 : Int) ≤ q25_4 g ∧
  q25_4 g < (↑l.length : Int)) ∧ (∃ (p : PrR), ∃ (m : MvR), [O.ptr 59 [O.ptr 152 [iO .u64 (grownF l g).a.key, iO .u32 (grownF l g).a.win, iO .i64 (grownF l g).a.life, iO .i64 (grownF l g).a.rto, iO .i64 (grownF l g).a.tries, iO .i64 (grownF l g).a.st, iO .u32 (grownF l g).a.mt, iO .u32 (grownF l g).a.pt, iO .u32 (grownF l g).a.ms, iO .u32 (grownF l g).a.ps, iO .u32 (grownF l g).a.ltag, iO .u8 (grownF l g).a.lch.t, iO .u8 (grownF l g).a.lch.f, O.d (D.ints IntKind.u8 (grownF l g).a.lch.v), O.d (D.v (Value.bool (grownF l g).a.set)), iO .i64 (grownF l g).a.at_, iO .i64 (grownF l g).a.left, O.any, O.any], O.ptr 152 [iO .u64 (grownF l g).b.key, iO .u32 (grownF l g).b.win, iO .i64 (grownF l g).b.life, iO .i64 (grownF l g).b.rto, iO .i64 (grownF l g).b.tries, iO .i64 (grownF l g).b.st, iO .u32 (grownF l g).b.mt, iO .u32 (grownF l g).b.pt, iO .u32 (grownF l g).b.ms, iO .u32 (grownF l g).b.ps, iO .u32 (grownF l g).b.ltag, iO .u8 (grownF l g).b.lch.t, iO .u8 (grownF l g).b.lch.f, O.d (D.ints IntKind.u8 (grownF l g).b.lch.v), O.d (D.v (Value.bool (grownF l g).b.set)), iO .i64 (grownF l g).b.at_, iO .i64 (grownF l g).b.left, O.any, O.any], O.ptr 148 (iO .u64 (grownF l g).a.key :: iO .u32 (grownF l g).a.win :: iO .i64 (grownF l g).a.life :: iO .i64 (grownF l g).a.rto :: iO .i64 (grownF l g).a.tries :: iO .u32 (grownF l g).a.ltag :: iO .u8 (grownF l g).a.lch.t :: iO .u8 (grownF l g).a.lch.f :: O.d (D.ints IntKind.u8 (grownF l g).a.lch.v) :: iO .i64 (grownF l g).a.at_ :: iO .i64 (grownF l g).a.left :: O.d (D.v (Value.bool (grownF l g).a.set)) :: iO .i64 (grownF l g).a.st :: iO .u32 (grownF l g).a.mt :: iO .u32 (grownF l g).a.ms :: iO .u32 (grownF l g).a.pt :: iO .u32 (grownF l g).a.ps :: q25_8), O.ptr 148 (iO .u64 (grownF l g).b.key :: iO .u32 (grownF l g).b.win :: iO .i64 (grownF l g).b.life :: iO .i64 (grownF l g).b.rto :: iO .i64 (grownF l g).b.tries :: iO .u32 (grownF l g).b.ltag :: iO .u8 (grownF l g).b.lch.t :: iO .u8 (grownF l g).b.lch.f :: O.d (D.ints IntKind.u8 (grownF l g).b.lch.v) :: iO .i64 (grownF l g).b.at_ :: iO .i64 (grownF l g).b.left :: O.d (D.v (Value.bool (grownF l g).b.set)) :: iO .i64 (grownF l g).b.st :: iO .u32 (grownF l g).b.mt :: iO .u32 (grownF l g).b.ms :: iO .u32 (grownF l g).b.pt :: iO .u32 (grownF l g).b.ps :: q25_8), O.own 150 (D.recs 4 (grownF l g).v.length (ltrCell (grownF l g).v)), O.own 150 (D.recs 4 (grownF l g).w.length (ltrCell (grownF l g).w)), iO .i64 (grownF l g).now, iO .u32 (grownF l g).draw, O.d (D.v (Value.bool false)), O.d (D.v (Value.bool (grownF l g).u)), O.d (D.v (Value.bool (grownF l g).t))], O.agg [iO .i64 (q25_9 l g).kind, iO .i64 (q25_9 l g).s, iO .i64 (q25_9 l g).k]] = [O.ptr 59 [O.ptr 152 [iO .u64 p.a.key, iO .u32 p.a.win, iO .i64 p.a.life, iO .i64 p.a.rto, iO .i64 p.a.tries, iO .i64 p.a.st, iO .u32 p.a.mt, iO .u32 p.a.pt, iO .u32 p.a.ms, iO .u32 p.a.ps, iO .u32 p.a.ltag, iO .u8 p.a.lch.t, iO .u8 p.a.lch.f, O.d (D.ints IntKind.u8 p.a.lch.v), O.d (D.v (Value.bool p.a.set)), iO .i64 p.a.at_, iO .i64 p.a.left, O.any, O.any], O.ptr 152 [iO .u64 p.b.key, iO .u32 p.b.win, iO .i64 p.b.life, iO .i64 p.b.rto, iO .i64 p.b.tries, iO .i64 p.b.st, iO .u32 p.b.mt, iO .u32 p.b.pt, iO .u32 p.b.ms, iO .u32 p.b.ps, iO .u32 p.b.ltag, iO .u8 p.b.lch.t, iO .u8 p.b.lch.f, O.d (D.ints IntKind.u8 p.b.lch.v), O.d (D.v (Value.bool p.b.set)), iO .i64 p.b.at_, iO .i64 p.b.left, O.any, O.any], O.ptr 148 (iO .u64 p.a.key :: iO .u32 p.a.win :: iO .i64 p.a.life :: iO .i64 p.a.rto :: iO .i64 p.a.tries :: iO .u32 p.a.ltag :: iO .u8 p.a.lch.t :: iO .u8 p.a.lch.f :: O.d (D.ints IntKind.u8 p.a.lch.v) :: iO .i64 p.a.at_ :: iO .i64 p.a.left :: O.d (D.v (Value.bool p.a.set)) :: iO .i64 p.a.st :: iO .u32 p.a.mt :: iO .u32 p.a.ms :: iO .u32 p.a.pt :: iO .u32 p.a.ps :: q25_8), O.ptr 148 (iO .u64 p.b.key :: iO .u32 p.b.win :: iO .i64 p.b.life :: iO .i64 p.b.rto :: iO .i64 p.b.tries :: iO .u32 p.b.ltag :: iO .u8 p.b.lch.t :: iO .u8 p.b.lch.f :: O.d (D.ints IntKind.u8 p.b.lch.v) :: iO .i64 p.b.at_ :: iO .i64 p.b.left :: O.d (D.v (Value.bool p.b.set)) :: iO .i64 p.b.st :: iO .u32 p.b.mt :: iO .u32 p.b.ms :: iO .u32 p.b.pt :: iO .u32 p.b.ps :: q25_8), O.own 150 (D.recs 4 p.v.length (ltrCell p.v)), O.own 150 (D.recs 4 p.w.length (ltrCell p.w)), iO .i64 p.now, iO .u32 p.draw, O.d (D.v (Value.bool false)), O.d (D.v (Value.bool p.u)), O.d (D.v (Value.bool p.t))], O.agg [iO .i64 m.kind, iO .i64 m.s, iO .i64 m.k]] ∧
  okP (1900 : Nat) p) ∧ True ∧ ∃ (g' : Nat), g' ≤ min (120 : Nat) l.length ∧ (120 : Nat) - g' < (120 : Nat) - g ∧ (IntKind.i64.wrap (q25_4 g + (1 : Int)) = q25_4 g' ∧
  (q25_10 l g).a.key = (grownF l g').a.key ∧ (q25_10 l g).a.win = (grownF l g').a.win ∧ (q25_10 l g).a.life = (grownF l g').a.life ∧ (q25_10 l g).a.rto = (grownF l g').a.rto ∧
  (q25_10 l g).a.tries = (grownF l g').a.tries ∧ (q25_10 l g).a.st = (grownF l g').a.st ∧ (q25_10 l g).a.mt = (grownF l g').a.mt ∧ (q25_10 l g).a.pt = (grownF l g').a.pt ∧
  (q25_10 l g).a.ms = (grownF l g').a.ms ∧ (q25_10 l g).a.ps = (grownF l g').a.ps ∧ (q25_10 l g).a.ltag = (grownF l g').a.ltag ∧ (q25_10 l g).a.lch.t = (grownF l g').a.lch.t ∧
  (q25_10 l g).a.lch.f = (grownF l g').a.lch.f ∧ (q25_10 l g).a.lch.v = (grownF l g').a.lch.v ∧ (q25_10 l g).a.set = (grownF l g').a.set ∧ (q25_10 l g).a.at_ = (grownF l g').a.at_ ∧
  (q25_10 l g).a.left = (grownF l g').a.left ∧ (q25_10 l g).b.key = (grownF l g').b.key ∧ (q25_10 l g).b.win = (grownF l g').b.win ∧ (q25_10 l g).b.life = (grownF l g').b.life ∧
  (q25_10 l g).b.rto = (grownF l g').b.rto ∧ (q25_10 l g).b.tries = (grownF l g').b.tries ∧ (q25_10 l g).b.st = (grownF l g').b.st ∧ (q25_10 l g).b.mt = (grownF l g').b.mt ∧
  (q25_10 l g).b.pt = (grownF l g').b.pt ∧ (q25_10 l g).b.ms = (grownF l g').b.ms ∧ (q25_10 l g).b.ps = (grownF l g').b.ps ∧ (q25_10 l g).b.ltag = (grownF l g').b.ltag ∧
  (q25_10 l g).b.lch.t = (grownF l g').b.lch.t ∧ (q25_10 l g).b.lch.f = (grownF l g').b.lch.f ∧ (q25_10 l g).b.lch.v = (grownF l g').b.lch.v ∧ (q25_10 l g).b.set = (grownF l g').b.set ∧
  (q25_10 l g).b.at_ = (grownF l g').b.at_ ∧ (q25_10 l g).b.left = (grownF l g').b.left ∧ (q25_10 l g).a.key = (grownF l g').a.key ∧ (q25_10 l g).a.win = (grownF l g').a.win ∧
  (q25_10 l g).a.life = (grownF l g').a.life ∧ (q25_10 l g).a.rto = (grownF l g').a.rto ∧ (q25_10 l g).a.tries = (grownF l g').a.tries ∧ (q25_10 l g).a.ltag = (grownF l g').a.ltag ∧
  (q25_10 l g).a.lch.t = (grownF l g').a.lch.t ∧ (q25_10 l g).a.lch.f = (grownF l g').a.lch.f ∧ (q25_10 l g).a.lch.v = (grownF l g').a.lch.v ∧ (q25_10 l g).a.at_ = (grownF l g').a.at_ ∧
  (q25_10 l g).a.left = (grownF l g').a.left ∧ (q25_10 l g).a.set = (grownF l g').a.set ∧ (q25_10 l g).a.st = (grownF l g').a.st ∧ (q25_10 l g).a.mt = (grownF l g').a.mt ∧
  (q25_10 l g).a.ms = (grownF l g').a.ms ∧ (q25_10 l g).a.pt = (grownF l g').a.pt ∧ (q25_10 l g).a.ps = (grownF l g').a.ps ∧ q25_5 ∧ q25_6 ∧ (q25_10 l g).b.key = (grownF l g').b.key ∧
  (q25_10 l g).b.win = (grownF l g').b.win ∧ (q25_10 l g).b.life = (grownF l g').b.life ∧ (q25_10 l g).b.rto = (grownF l g').b.rto ∧ (q25_10 l g).b.tries = (grownF l g').b.tries ∧
  (q25_10 l g).b.ltag = (grownF l g').b.ltag ∧ (q25_10 l g).b.lch.t = (grownF l g').b.lch.t ∧ (q25_10 l g).b.lch.f = (grownF l g').b.lch.f ∧ (q25_10 l g).b.lch.v = (grownF l g').b.lch.v ∧
  (q25_10 l g).b.at_ = (grownF l g').b.at_ ∧ (q25_10 l g).b.left = (grownF l g').b.left ∧ (q25_10 l g).b.set = (grownF l g').b.set ∧ (q25_10 l g).b.st = (grownF l g').b.st ∧
  (q25_10 l g).b.mt = (grownF l g').b.mt ∧ (q25_10 l g).b.ms = (grownF l g').b.ms ∧ (q25_10 l g).b.pt = (grownF l g').b.pt ∧ (q25_10 l g).b.ps = (grownF l g').b.ps ∧
  q25_5 ∧ q25_6 ∧ ((q25_10 l g).v.length = (grownF l g').v.length ∧ ∀ (i : Nat), i < (q25_10 l g).v.length → ∀ (j : Nat), j < (4 : Nat) → ltrCell (q25_10 l g).v i j = ltrCell (grownF l g').v i j) ∧
  ((q25_10 l g).w.length = (grownF l g').w.length ∧ ∀ (i : Nat), i < (q25_10 l g).w.length → ∀ (j : Nat), j < (4 : Nat) → ltrCell (q25_10 l g).w i j = ltrCell (grownF l g').w i j) ∧
  (q25_10 l g).now = (grownF l g').now ∧ (q25_10 l g).draw = (grownF l g').draw ∧ false = false ∧ (q25_10 l g).u = (grownF l g').u ∧ (q25_10 l g).t = (grownF l g').t ∧
  (true && true && true && true) = true) ∧
  (q25_11 ∧ q25_11 ∧ some (SV.p (11 : Nat) (0 : Nat)) = some (SV.p (11 : Nat) (0 : Nat)) ∧ some (SV.p (1 : Nat) (3 : Nat)) = some (SV.p (1 : Nat) (3 : Nat)) ∧
  q25_12 ∧ q25_13 ∧ q25_13 ∧ q25_11 ∧ q25_11 ∧ some (SV.p (5 : Nat) (0 : Nat)) = some (SV.p (5 : Nat) (0 : Nat)) ∧ q25_12 ∧ q25_12 ∧ q25_13 ∧ q25_13 ∧ some (SV.tup []) = some (SV.tup []) ∧
  q25_13 ∧ some (SV.tup []) = some (SV.tup []) ∧ q25_13 ∧ q25_13 ∧ q25_13 ∧ q25_15 = q25_15 ∧ some q25_14 = some q25_14 ∧ some (SV.a (0 : Nat)) = some (SV.a (0 : Nat)) ∧
  True) ∧ q25_16 y_1 ∧ q25_16 y_1 ∧ q25_16 y ∧ q25_16 y ∧ some (R.ro (D.recs 3 l.length (mvCell l))) = some (R.ro (D.recs 3 l.length (mvCell l))) ∧
  True) (q25_17 l g y_3)) (q25_17 l g y_3)) ∧ True) ∧ True) ∧ True) ∧ True) ∧ True) ∧ True) ∧ True) ∧ True := by
  delta q25_0 q25_1 q25_2 q25_3 q25_4 q25_5 q25_6 q25_8 q25_9 q25_10 q25_11 q25_12 q25_13 q25_14 q25_15 q25_16 q25_17 iO
  simp only [↓sw_iff, ↓Bool.and_eq_true, ↓decide_eq_true_eq, ↓decide_eq_false_iff_not, mvsOf_mvs, ltrsOf_ltrs, pr_eta', wrap_nxt, wrap_dr, wrap_key9 (drF_ok _), Int.toNat_natCast]
  intro l hl
  have hw : ∀ g : Nat, g ≤ 120 → IntKind.i64.wrap ((g : Int) + 1) = ((g + 1 : Nat) : Int) := fun g h => wrap_succ h (by omega)
  repeat' (first
    | (refine (show ((grownF l g).a.key = (grownF l (min 120 l.length)).a.key) ∧ _ from ?_); rw [show min 120 l.length = g by omega])
    | exact ⟨_, 200, 12, 8, rfl, by omega, by omega, by omega⟩
    | (refine ⟨g + 1, by omega, by omega, ?_⟩; rw [grown_succ (show g < l.length by omega)])
    | (refine ⟨0, Nat.zero_le _, ?_⟩; rw [grown_0, pr1_a, pr1_b])
    | (intro g hg; have hgo := hw g (by omega); have hok := grown_ok l g (by omega); simp only [hgo])
    | exact ⟨grownF l _, l.getD _ noMv, rfl, okPr.mono (grown_ok l _ (by omega)) (by omega) (by omega)⟩
    | exact rfl | exact trivial | omega | apply And.intro | intro _)
set_option maxRecDepth 100000 in
theorem ok25 : FnIs Try.prog 25 grownC := by
  refine fnIs (C := (ctrsJ Try.prog l8 iG 4)) (by kernel_rfl) (cokJ (by kernel_rfl) l8_ok iG_ok) Try.func25 (code := code25) (by kernel_rfl) (by kernel_rfl) ?_
  rintro a ⟨l, rfl, hl⟩
  exact ⟨anns [(7, grA l)] [4, 7], kcast (vc25 l hl) (by kernel_rfl)⟩

noncomputable def code26 : Code := match Try.f26.body with | some c => c | none => .skip
set_option maxHeartbeats 4000000 in
theorem vc26 : (∃ (k : Int), ∃ (l : Int), ∃ (r : Int), ∃ (t : Int), [iO .u64 (7 : Int), iO .i64 (100 : Int), iO .i64 (10 : Int), iO .i64 (3 : Int)] = q25_1 k l r t ∧
  ((1 : Int) ≤ l ∧ l ≤ (1048576 : Int)) ∧ ((1 : Int) ≤ r ∧ r ≤ (1048576 : Int)) ∧ (0 : Int) ≤ t ∧ t ≤ (100 : Int)) ∧ (∃ (s : AsR), ∃ (t : Int), ∃ (n : Int), ∃ (w : Int), [O.ptr 148 (iO .u64 q25_18.key :: iO .u32 q25_18.win :: iO .i64 q25_18.life :: iO .i64 q25_18.rto :: iO .i64 q25_18.tries :: iO .u32 q25_18.ltag :: iO .u8 q25_18.lch.t :: iO .u8 q25_18.lch.f :: O.d (D.ints IntKind.u8 q25_18.lch.v) :: iO .i64 q25_18.at_ :: iO .i64 q25_18.left :: O.d (D.v (Value.bool q25_18.set)) :: iO .i64 q25_18.st :: iO .u32 q25_18.mt :: iO .u32 q25_18.ms :: iO .u32 q25_18.pt :: iO .u32 q25_18.ps :: q25_8), iO .u32 (5 : Int), iO .u32 (6 : Int), iO .i64 (0 : Int)] = [O.ptr 148 (iO .u64 s.key :: iO .u32 s.win :: iO .i64 s.life :: iO .i64 s.rto :: iO .i64 s.tries :: iO .u32 s.ltag :: iO .u8 s.lch.t :: iO .u8 s.lch.f :: O.d (D.ints IntKind.u8 s.lch.v) :: iO .i64 s.at_ :: iO .i64 s.left :: O.d (D.v (Value.bool s.set)) :: iO .i64 s.st :: iO .u32 s.mt :: iO .u32 s.ms :: iO .u32 s.pt :: iO .u32 s.ps :: q25_8), iO .u32 t, iO .u32 n, iO .i64 w] ∧
  okAs s ∧ okU t ∧ okU n ∧ okNow w) ∧ True ∧ True ∧ (∃ (s : AsR), [O.d (D.ptr 148 (19 : Nat) fun (i : Nat) => [D.v (Value.int IntKind.u64 q25_19.key), D.v (Value.int IntKind.u32 q25_19.win), D.v (Value.int IntKind.i64 q25_19.life), D.v (Value.int IntKind.i64 q25_19.rto), D.v (Value.int IntKind.i64 q25_19.tries), D.v (Value.int IntKind.u32 q25_19.ltag), D.v (Value.int IntKind.u8 q25_19.lch.t), D.v (Value.int IntKind.u8 q25_19.lch.f), D.ints IntKind.u8 q25_19.lch.v, D.v (Value.int IntKind.i64 q25_19.at_), D.v (Value.int IntKind.i64 q25_19.left), D.v (Value.bool q25_19.set), D.v (Value.int IntKind.i64 q25_19.st), D.v (Value.int IntKind.u32 q25_19.mt), D.v (Value.int IntKind.u32 q25_19.ms), D.v (Value.int IntKind.u32 q25_19.pt), D.v (Value.int IntKind.u32 q25_19.ps), D.recs 4 (0 : Nat) (ltrCell noOut.pk), D.ints IntKind.i64 noOut.ev].getD i (D.v undef))] = [O.d (D.ptr 148 (19 : Nat) fun (i : Nat) => [D.v (Value.int IntKind.u64 s.key), D.v (Value.int IntKind.u32 s.win), D.v (Value.int IntKind.i64 s.life), D.v (Value.int IntKind.i64 s.rto), D.v (Value.int IntKind.i64 s.tries), D.v (Value.int IntKind.u32 s.ltag), D.v (Value.int IntKind.u8 s.lch.t), D.v (Value.int IntKind.u8 s.lch.f), D.ints IntKind.u8 s.lch.v, D.v (Value.int IntKind.i64 s.at_), D.v (Value.int IntKind.i64 s.left), D.v (Value.bool s.set), D.v (Value.int IntKind.i64 s.st), D.v (Value.int IntKind.u32 s.mt), D.v (Value.int IntKind.u32 s.ms), D.v (Value.int IntKind.u32 s.pt), D.v (Value.int IntKind.u32 s.ps), D.recs 4 (0 : Nat) (ltrCell []), D.ints IntKind.i64 []].getD i (D.v undef))]) ∧
  True ∧ decide (q25_19.st = (1 : Int)) = true ∧ true = true := by
  delta q25_1 q25_8 q25_18 q25_19 iO
  have e1 : (openA (newG 7 100 10 3) 5 6 0).2.2 = 0 := by decide
  have e2 : (openA (newG 7 100 10 3) 5 6 0).2.1.pk.length = 1 := by decide
  have e3 : (openA (newG 7 100 10 3) 5 6 0).1.st = 1 := by decide
  have e4 : okAs (newG 7 100 10 3) := newG_ok (by omega) (by omega) (by omega) (by omega)
  have e5 : okU 5 := by unfold okU; omega
  have e6 : okU 6 := by unfold okU; omega
  have e7 : okNow 0 := by unfold okNow; omega
  repeat' (first | exact ⟨_, _, _, _, rfl, by omega, by omega, by omega⟩ | exact ⟨newG 7 100 10 3, 5, 6, 0, rfl, e4, e5, e6, e7⟩ | exact ⟨(openA (newG 7 100 10 3) 5 6 0).1, rfl⟩ | exact rfl | exact trivial | exact by decide | omega | apply And.intro | (intro h; exact absurd h (by decide)) | intro _)
set_option maxRecDepth 100000 in
theorem ok26 : FnIs Try.prog 26 ansAC := by
  refine fnIs (C := (ctrs l9)) (by kernel_rfl) l9_ok Try.func26 (code := code26) (by kernel_rfl) (by kernel_rfl) ?_
  rintro a rfl
  exact ⟨anns [] [5], kcast (vc26) (by kernel_rfl)⟩

end Go.ZR
