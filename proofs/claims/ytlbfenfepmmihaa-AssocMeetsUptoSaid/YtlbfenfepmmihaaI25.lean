/- Part 25 of what the closing text rests on. -/
import Derived.Test.YtlbfenfepmmihaaI24
import Derived.Test.YtlbfenfepmmihaaRows
namespace Go.ZR
open Go.Proofs
open Go.Z Go.ZM Go.RowKit
set_option maxRecDepth 100000
@[reducible] noncomputable def q36d_0 (x0 : PrR) : Int := IntKind.u32.wrap (x0.draw + (1 : Int))
@[reducible] noncomputable def q36d_1 (x0 : PrR) : Int := IntKind.u32.wrap (q36d_0 x0 * (2654435769 : Int))
@[reducible] noncomputable def q36d_2 (x0 : PrR) : Int := bits BinOp.xor IntKind.u32 IntKind.u32.max (q36d_1 x0)
@[reducible] def q36d_3 : Prop := (0 : Int) ≤ (1 : Int) ∧ (1 : Int) < (↑(2 : Nat) : Int)
@[reducible] noncomputable def q36d_4 (x0 : PrR) : Int := (↑x0.w.length : Int)
@[reducible] noncomputable def q36d_5 : List O := [O.own 142 (D.recs 4 (0 : Nat) (ltrCell noOut.pk)), O.own 3 (D.ints IntKind.i64 noOut.ev)]
@[reducible] noncomputable def q36d_6 (x0 : PrR) : O := O.ptr 148 (iO .u64 x0.b.key :: iO .u32 x0.b.win :: iO .i64 x0.b.life :: iO .i64 x0.b.rto :: iO .i64 x0.b.tries :: iO .u32 x0.b.ltag :: iO .u8 x0.b.lch.t :: iO .u8 x0.b.lch.f :: O.d (D.ints IntKind.u8 x0.b.lch.v) :: iO .i64 x0.b.at_ :: iO .i64 x0.b.left :: O.d (D.v (Value.bool x0.b.set)) :: iO .i64 x0.b.st :: iO .u32 x0.b.mt :: iO .u32 x0.b.ms :: iO .u32 x0.b.pt :: iO .u32 x0.b.ps :: q36d_5)
@[reducible] noncomputable def q36d_7 (x0 : PrR) : List O := [iO .u32 (q36d_1 x0), iO .u32 (q36d_2 x0), iO .i64 x0.now]
@[reducible] noncomputable def q36d_8 (x0 : AsR) (x1 : Int) (x2 : Int) (x3 : Int) : List O := [O.ptr 148 (iO .u64 x0.key :: iO .u32 x0.win :: iO .i64 x0.life :: iO .i64 x0.rto :: iO .i64 x0.tries :: iO .u32 x0.ltag :: iO .u8 x0.lch.t :: iO .u8 x0.lch.f :: O.d (D.ints IntKind.u8 x0.lch.v) :: iO .i64 x0.at_ :: iO .i64 x0.left :: O.d (D.v (Value.bool x0.set)) :: iO .i64 x0.st :: iO .u32 x0.mt :: iO .u32 x0.ms :: iO .u32 x0.pt :: iO .u32 x0.ps :: q36d_5), iO .u32 x1, iO .u32 x2, iO .i64 x3]
@[reducible] def q36d_9 (x0 : PrR) : Prop := ∃ (s_1 : AsR), ∃ (t : Int), ∃ (n : Int), ∃ (w : Int), q36d_6 x0 :: q36d_7 x0 = q36d_8 s_1 t n w ∧ okAs s_1 ∧
  okU t ∧ okU n ∧ okNow w
@[reducible] noncomputable def q36d_10 (x0 : PrR) : O := O.ptr 152 [iO .u64 x0.b.key, iO .u32 x0.b.win, iO .i64 x0.b.life, iO .i64 x0.b.rto, iO .i64 x0.b.tries, iO .i64 x0.b.st, iO .u32 x0.b.mt, iO .u32 x0.b.pt, iO .u32 x0.b.ms, iO .u32 x0.b.ps, iO .u32 x0.b.ltag, iO .u8 x0.b.lch.t, iO .u8 x0.b.lch.f, O.d (D.ints IntKind.u8 x0.b.lch.v), O.d (D.v (Value.bool x0.b.set)), iO .i64 x0.b.at_, iO .i64 x0.b.left, O.any, O.any]
@[reducible] noncomputable def q36d_11 (x0 : AsR) (x1 : Int) (x2 : Int) (x3 : Int) : List O := [O.ptr 152 [iO .u64 x0.key, iO .u32 x0.win, iO .i64 x0.life, iO .i64 x0.rto, iO .i64 x0.tries, iO .i64 x0.st, iO .u32 x0.mt, iO .u32 x0.pt, iO .u32 x0.ms, iO .u32 x0.ps, iO .u32 x0.ltag, iO .u8 x0.lch.t, iO .u8 x0.lch.f, O.d (D.ints IntKind.u8 x0.lch.v), O.d (D.v (Value.bool x0.set)), iO .i64 x0.at_, iO .i64 x0.left, O.any, O.any], iO .u32 x1, iO .u32 x2, iO .i64 x3]
@[reducible] def q36d_12 (x0 : PrR) : Prop := ∃ (s_1 : AsR), ∃ (t : Int), ∃ (n : Int), ∃ (w : Int), q36d_10 x0 :: q36d_7 x0 = q36d_11 s_1 t n w ∧ okAs s_1 ∧
  okU t ∧ okU n ∧ okNow w
@[reducible] noncomputable def q36d_13 (x0 : PrR) : O := O.ptr 152 [iO .u64 x0.a.key, iO .u32 x0.a.win, iO .i64 x0.a.life, iO .i64 x0.a.rto, iO .i64 x0.a.tries, iO .i64 x0.a.st, iO .u32 x0.a.mt, iO .u32 x0.a.pt, iO .u32 x0.a.ms, iO .u32 x0.a.ps, iO .u32 x0.a.ltag, iO .u8 x0.a.lch.t, iO .u8 x0.a.lch.f, O.d (D.ints IntKind.u8 x0.a.lch.v), O.d (D.v (Value.bool x0.a.set)), iO .i64 x0.a.at_, iO .i64 x0.a.left, O.any, O.any]
@[reducible] noncomputable def q36d_14 (x0 : AsR × OutR × Int) : O := O.ptr 152 [iO .u64 x0.fst.key, iO .u32 x0.fst.win, iO .i64 x0.fst.life, iO .i64 x0.fst.rto, iO .i64 x0.fst.tries, iO .i64 x0.fst.st, iO .u32 x0.fst.mt, iO .u32 x0.fst.pt, iO .u32 x0.fst.ms, iO .u32 x0.fst.ps, iO .u32 x0.fst.ltag, iO .u8 x0.fst.lch.t, iO .u8 x0.fst.lch.f, O.d (D.ints IntKind.u8 x0.fst.lch.v), O.d (D.v (Value.bool x0.fst.set)), iO .i64 x0.fst.at_, iO .i64 x0.fst.left, O.any, O.any]
@[reducible] noncomputable def q36d_15 (x0 : PrR) : O := O.ptr 148 (iO .u64 x0.a.key :: iO .u32 x0.a.win :: iO .i64 x0.a.life :: iO .i64 x0.a.rto :: iO .i64 x0.a.tries :: iO .u32 x0.a.ltag :: iO .u8 x0.a.lch.t :: iO .u8 x0.a.lch.f :: O.d (D.ints IntKind.u8 x0.a.lch.v) :: iO .i64 x0.a.at_ :: iO .i64 x0.a.left :: O.d (D.v (Value.bool x0.a.set)) :: iO .i64 x0.a.st :: iO .u32 x0.a.mt :: iO .u32 x0.a.ms :: iO .u32 x0.a.pt :: iO .u32 x0.a.ps :: q36d_5)
@[reducible] noncomputable def q36d_16 (x0 : AsR × OutR × Int) : O := O.ptr 148 (iO .u64 x0.fst.key :: iO .u32 x0.fst.win :: iO .i64 x0.fst.life :: iO .i64 x0.fst.rto :: iO .i64 x0.fst.tries :: iO .u32 x0.fst.ltag :: iO .u8 x0.fst.lch.t :: iO .u8 x0.fst.lch.f :: O.d (D.ints IntKind.u8 x0.fst.lch.v) :: iO .i64 x0.fst.at_ :: iO .i64 x0.fst.left :: O.d (D.v (Value.bool x0.fst.set)) :: iO .i64 x0.fst.st :: iO .u32 x0.fst.mt :: iO .u32 x0.fst.ms :: iO .u32 x0.fst.pt :: iO .u32 x0.fst.ps :: q36d_5)
@[reducible] noncomputable def q36d_17 (x0 : PrR) : List O := [O.d (D.v (Value.bool false)), O.d (D.v (Value.bool x0.u)), O.d (D.v (Value.bool x0.t))]
@[reducible] noncomputable def q36d_18 (x0 : PrR) : List O := O.own 150 (D.recs 4 x0.v.length (ltrCell x0.v)) :: O.own 150 (D.recs 4 x0.w.length (ltrCell x0.w)) :: iO .i64 x0.now :: iO .u32 (q36d_0 x0) :: q36d_17 x0
@[reducible] noncomputable def q36d_19 (x0 : AsR × OutR × Int) : O := O.agg [O.d (D.recs 4 x0.snd.fst.pk.length (ltrCell x0.snd.fst.pk)), O.d (D.ints IntKind.i64 x0.snd.fst.ev)]
@[reducible] noncomputable def q36d_20 (x0 : OutR) : O := O.agg [O.d (D.recs 4 x0.pk.length (ltrCell x0.pk)), O.d (D.ints IntKind.i64 x0.ev)]
@[reducible] noncomputable def q36d_21 (x0 : PrR) (x1 : D) (x2 : D) (x3 : Int) (x4 : OutR) : List O := [O.ptr 59 (q36d_13 x0 :: q36d_10 x0 :: q36d_15 x0 :: q36d_6 x0 :: O.own 150 x1 :: O.own 150 x2 :: iO .i64 x0.now :: iO .u32 x0.draw :: q36d_17 x0), iO .i64 x3, q36d_20 x4, q36d_20 x4]
@[reducible] def q36d_22 : Prop := (0 : Nat) = (0 : Nat) ∧ ∀ (i : Nat), i < (0 : Nat) → ∀ (j : Nat), j < (4 : Nat) → ltrCell noOut.pk i j = ltrCell noOut.pk i j
@[reducible] def q36d_23 (x0 : PrR) (x1 : PrR) : Prop := x0.a.key = x1.a.key ∧ x0.a.win = x1.a.win ∧ x0.a.life = x1.a.life ∧ x0.a.rto = x1.a.rto ∧ x0.a.tries = x1.a.tries ∧
  x0.a.st = x1.a.st ∧ x0.a.mt = x1.a.mt ∧ x0.a.pt = x1.a.pt ∧ x0.a.ms = x1.a.ms ∧ x0.a.ps = x1.a.ps ∧ x0.a.ltag = x1.a.ltag ∧ x0.a.lch.t = x1.a.lch.t ∧ x0.a.lch.f = x1.a.lch.f ∧
  x0.a.lch.v = x1.a.lch.v ∧ x0.a.set = x1.a.set ∧ x0.a.at_ = x1.a.at_ ∧ x0.a.left = x1.a.left ∧ x0.b.key = x1.b.key ∧ x0.b.win = x1.b.win ∧ x0.b.life = x1.b.life ∧
  x0.b.rto = x1.b.rto ∧ x0.b.tries = x1.b.tries ∧ x0.b.st = x1.b.st ∧ x0.b.mt = x1.b.mt ∧ x0.b.pt = x1.b.pt ∧ x0.b.ms = x1.b.ms ∧ x0.b.ps = x1.b.ps ∧ x0.b.ltag = x1.b.ltag ∧
  x0.b.lch.t = x1.b.lch.t ∧ x0.b.lch.f = x1.b.lch.f ∧ x0.b.lch.v = x1.b.lch.v ∧ x0.b.set = x1.b.set ∧ x0.b.at_ = x1.b.at_ ∧ x0.b.left = x1.b.left ∧ x0.a.key = x1.a.key ∧
  x0.a.win = x1.a.win ∧ x0.a.life = x1.a.life ∧ x0.a.rto = x1.a.rto ∧ x0.a.tries = x1.a.tries ∧ x0.a.ltag = x1.a.ltag ∧ x0.a.lch.t = x1.a.lch.t ∧ x0.a.lch.f = x1.a.lch.f ∧
  x0.a.lch.v = x1.a.lch.v ∧ x0.a.at_ = x1.a.at_ ∧ x0.a.left = x1.a.left ∧ x0.a.set = x1.a.set ∧ x0.a.st = x1.a.st ∧ x0.a.mt = x1.a.mt ∧ x0.a.ms = x1.a.ms ∧
  x0.a.pt = x1.a.pt ∧ x0.a.ps = x1.a.ps ∧ q36d_22 ∧ noOut.ev = noOut.ev ∧ x0.b.key = x1.b.key ∧ x0.b.win = x1.b.win ∧ x0.b.life = x1.b.life ∧ x0.b.rto = x1.b.rto ∧
  x0.b.tries = x1.b.tries ∧ x0.b.ltag = x1.b.ltag ∧ x0.b.lch.t = x1.b.lch.t ∧ x0.b.lch.f = x1.b.lch.f ∧ x0.b.lch.v = x1.b.lch.v ∧ x0.b.at_ = x1.b.at_ ∧ x0.b.left = x1.b.left ∧
  x0.b.set = x1.b.set ∧ x0.b.st = x1.b.st ∧ x0.b.mt = x1.b.mt ∧ x0.b.ms = x1.b.ms ∧ x0.b.pt = x1.b.pt ∧ x0.b.ps = x1.b.ps ∧ q36d_22 ∧ noOut.ev = noOut.ev ∧
  (x0.v.length = x1.v.length ∧ ∀ (i : Nat), i < x0.v.length → ∀ (j : Nat), j < (4 : Nat) → ltrCell x0.v i j = ltrCell x1.v i j) ∧ (x0.w.length = x1.w.length ∧
  ∀ (i : Nat), i < x0.w.length → ∀ (j : Nat), j < (4 : Nat) → ltrCell x0.w i j = ltrCell x1.w i j) ∧ x0.now = x1.now ∧ x0.draw = x1.draw ∧ false = false ∧
  x0.u = x1.u ∧ x0.t = x1.t ∧ (true && true && true) = true
@[reducible] def q36d_24 (x0 : PrR) (x1 : AsR × OutR × Int) (x2 : PrR) (x3 : PrR) : Prop := ((∃ (p_1 : PrR), ∃ (s_1 : Int), ∃ (o : OutR), ∃ (A : D), ∃ (B : D), [O.ptr 59 (q36d_13 x0 :: q36d_14 x1 :: q36d_15 x0 :: q36d_16 x1 :: q36d_18 x0), iO .i64 (1 : Int), q36d_19 x1, q36d_19 x1] = q36d_21 p_1 A B s_1 o ∧
  (s_1 = (0 : Int) ∨ s_1 = (1 : Int)) ∧ asLt A p_1.v ∧ asLt B p_1.w ∧ okP (2000 : Nat) p_1 ∧ okO o) ∧ q36d_23 x2 x3) ∧ True
@[reducible] def q36d_25 (x0 : PrR) (x1 : AsR × OutR × Int) (x2 : PrR) (x3 : PrR) : Prop := True ∧ True ∧ True ∧ True ∧ True ∧ True ∧ q36d_3 ∧ (q36d_9 x0 ∧
  ((q36d_3 ∧ (q36d_12 x0 ∧ q36d_24 x0 x1 x2 x3 ∧ True) ∧ ((q36d_12 x0 ∧ q36d_24 x0 x1 x2 x3) ∧ True) ∧ True) ∧ True) ∧ True) ∧ ((q36d_9 x0 ∧ (q36d_3 ∧ (q36d_12 x0 ∧
  q36d_24 x0 x1 x2 x3 ∧ True) ∧ ((q36d_12 x0 ∧ q36d_24 x0 x1 x2 x3) ∧ True) ∧ True) ∧ True) ∧ True) ∧ True
@[reducible] def q36d_26 : Prop := (0 : Int) ≤ (0 : Int) ∧ (0 : Int) < (↑(2 : Nat) : Int)
@[reducible] noncomputable def q36d_27 (x0 : PrR) : Int := (↑x0.v.length : Int)
@[reducible] def q36d_28 (x0 : PrR) : Prop := ∃ (s_1 : AsR), ∃ (t : Int), ∃ (n : Int), ∃ (w : Int), q36d_15 x0 :: q36d_7 x0 = q36d_8 s_1 t n w ∧ okAs s_1 ∧
  okU t ∧ okU n ∧ okNow w
@[reducible] def q36d_29 (x0 : PrR) : Prop := ∃ (s_1 : AsR), ∃ (t : Int), ∃ (n : Int), ∃ (w : Int), q36d_13 x0 :: q36d_7 x0 = q36d_11 s_1 t n w ∧ okAs s_1 ∧
  okU t ∧ okU n ∧ okNow w
@[reducible] def q36d_30 (x0 : AsR × OutR × Int) (x1 : PrR) (x2 : PrR) (x3 : PrR) : Prop := ((∃ (p_1 : PrR), ∃ (s_1 : Int), ∃ (o : OutR), ∃ (A : D), ∃ (B : D), [O.ptr 59 (q36d_14 x0 :: q36d_10 x1 :: q36d_16 x0 :: q36d_6 x1 :: q36d_18 x1), iO .i64 (0 : Int), q36d_19 x0, q36d_19 x0] = q36d_21 p_1 A B s_1 o ∧
  (s_1 = (0 : Int) ∨ s_1 = (1 : Int)) ∧ asLt A p_1.v ∧ asLt B p_1.w ∧ okP (2000 : Nat) p_1 ∧ okO o) ∧ q36d_23 x2 x3) ∧ True
@[reducible] def q36d_31 (x0 : PrR) (x1 : AsR × OutR × Int) (x2 : PrR) (x3 : PrR) : Prop := True ∧ True ∧ True ∧ True ∧ True ∧ True ∧ q36d_26 ∧ (q36d_28 x0 ∧
  ((q36d_26 ∧ (q36d_29 x0 ∧ q36d_30 x1 x0 x2 x3 ∧ True) ∧ ((q36d_29 x0 ∧ q36d_30 x1 x0 x2 x3) ∧ True) ∧ True) ∧ True) ∧ True) ∧ ((q36d_28 x0 ∧ (q36d_26 ∧
  (q36d_29 x0 ∧ q36d_30 x1 x0 x2 x3 ∧ True) ∧ ((q36d_29 x0 ∧ q36d_30 x1 x0 x2 x3) ∧ True) ∧ True) ∧ True) ∧ True) ∧ True
set_option maxHeartbeats 4000000 in
theorem vc36d : ∀ (p : PrR), have y := ltrsOf (D.recs 4 p.w.length (ltrCell p.w)); have y_1 := ltrsOf (D.recs 4 p.v.length (ltrCell p.v));
  have y_2 := openA p.b (q36d_1 p) (q36d_2 p) p.now; have y_3 := ltrsOf (D.recs 4 y_2.snd.fst.pk.length (ltrCell y_2.snd.fst.pk)); have y_4 := saidF (PrR.mk p.a y_2.fst y_1 y p.now (q36d_0 p) p.u p.t) (1 : Int) (OutR.mk y_3 y_2.snd.fst.ev);
  have y_5 := openA p.a (q36d_1 p) (q36d_2 p) p.now; have y_6 := ltrsOf (D.recs 4 y_5.snd.fst.pk.length (ltrCell y_5.snd.fst.pk)); have y_7 := saidF (PrR.mk y_5.fst p.b y_1 y p.now (q36d_0 p) p.u p.t) (0 : Int) (OutR.mk y_6 y_5.snd.fst.ev);
  ∀ (s k : Int), have y_8 := moveF (PrR.mk p.a p.b y_1 y p.now p.draw p.u p.t) (MvR.mk (4 : Int) s k); okP (1900 : Nat) p → (2 : Int) ≠ (0 : Int) ∧ True ∧
  sw (!decide (s.tmod (2 : Int) = (0 : Int))) (q36d_3 ∧ True ∧ sw (decide ((0 : Int) < q36d_4 p)) (True ∧ sw (decide ((0 : Int) < k)) (q36d_3 ∧ q36d_4 p ≠ (0 : Int) ∧
  q36d_25 p y_2 y_4 y_8) (q36d_25 p y_2 y_4 y_8)) (q36d_25 p y_2 y_4 y_8)) (q36d_26 ∧ True ∧ sw (decide ((0 : Int) < q36d_27 p)) (True ∧ sw (decide ((0 : Int) < k)) (q36d_26 ∧
  q36d_27 p ≠ (0 : Int) ∧ q36d_31 p y_5 y_7 y_8) (q36d_31 p y_5 y_7 y_8)) (q36d_31 p y_5 y_7 y_8)) := by
  delta q36d_0 q36d_1 q36d_2 q36d_3 q36d_4 q36d_5 q36d_6 q36d_7 q36d_8 q36d_9 q36d_10 q36d_11 q36d_12 q36d_13 q36d_14 q36d_15 q36d_16 q36d_17 q36d_18
    q36d_19 q36d_20 q36d_21 q36d_22 q36d_23 q36d_24 q36d_25 q36d_26 q36d_27 q36d_28 q36d_29 q36d_30 q36d_31 iO
  simp only [↓sw_iff, ↓Bool.not_eq_true', ↓Bool.not_eq_false', ↓Bool.and_eq_true, ↓decide_eq_true_eq, ↓decide_eq_false_iff_not, ltrsOf_ltrs, pr_eta', out_eta, wrap_nxt, wrap_dr]
  intro p s k hp
  have hn := hp.len
  unfold lenP at hn
  have lw : ∀ x, (putW p 1 (wayF p 1 ++ [x])).w.length = p.w.length + 1 := fun x => List.length_append
  have lv : ∀ x, (putW p 0 (wayF p 0 ++ [x])).v.length = p.v.length + 1 := fun x => List.length_append
  have nw : (0 : Int) < (p.w.length : Int) → 0 < k → 0 ≤ (k).tmod (p.w.length : Int) := fun h h1 => by have := (tmod_nat h h1).1; omega
  have nv : (0 : Int) < (p.v.length : Int) → 0 < k → 0 ≤ (k).tmod (p.v.length : Int) := fun h h1 => by have := (tmod_nat h h1).1; omega
  have tw : (0 : Int) < (p.w.length : Int) → 0 < k → ((k).tmod (p.w.length : Int)).toNat < p.w.length := fun h h1 => (tmod_nat h h1).2.1
  have tv : (0 : Int) < (p.v.length : Int) → 0 < k → ((k).tmod (p.v.length : Int)).toNat < p.v.length := fun h h1 => (tmod_nat h h1).2.1
  have hw : okNow p.now := okNow_of hp.now (by omega)
  have bx := xor_max (drF_ok (nxt p.draw))
  simp only [bx]
  repeat' (first
    | (refine (show (_ = (moveF p ⟨4, s, k⟩).a.key) ∧ _ from ?_)
       (first | rw [mv_w (by assumption)] | rw [mv_v (by assumption)])
       (try (first | rw [kF_mod (by assumption) (by assumption)] | rw [kF_0 (by assumption)] | rw [kF_0' (by assumption)] | rw [kF_mod (by omega) (by omega)] | rw [kF_0 (by omega)]))
       rw [ms4]
       repeat' (first | exact rfl | exact trivial | omega | exact List.length_append.symm | (intro i hi j hj; exact rfl) | exact (lw _).symm | exact (lv _).symm | exact wo_len p.w 0 (by omega) | exact wo_len p.v 0 (by omega) | exact wo_len p.w _ (tw (by omega) (by omega)) | exact wo_len p.v _ (tv (by omega) (by omega)) | (intro i hi j hj; first | exact wayD_at p.w 0 i j (by omega) | exact wayD_at p.v 0 i j (by omega) | exact wayD_at p.w _ i j (tw (by omega) (by omega)) | exact wayD_at p.v _ i j (tv (by omega) (by omega)) | exact ltr_snoc p.w _ i j (by omega) hj | exact ltr_snoc p.v _ i j (by omega) hj) | (intro i hi j hj; exact ltr_app _ _ i j) | apply And.intro))
    | exact ⟨p.b, drF (nxt p.draw), 4294967295 - drF (nxt p.draw), p.now, rfl, hp.b, drF_ok _, okU_sub (drF_ok _), hw⟩
    | exact said_pre (putS (drawn p) 1 (openA p.b (drF (nxt p.draw)) (4294967295 - drF (nxt p.draw)) p.now).1) (.inr rfl) (open_mid hp 1 (drF_ok _))
    | exact ⟨p.a, drF (nxt p.draw), 4294967295 - drF (nxt p.draw), p.now, rfl, hp.a, drF_ok _, okU_sub (drF_ok _), hw⟩
    | exact said_pre (putS (drawn p) 0 (openA p.a (drF (nxt p.draw)) (4294967295 - drF (nxt p.draw)) p.now).1) (.inl rfl) (open_mid hp 0 (drF_ok _))
    | exact .inr rfl
    | refine .inr ?_
    | exact rfl | exact trivial | omega | exact nw (by omega) (by omega) | exact nv (by omega) (by omega) | (have h1 := tw (by omega) (by omega); omega) | (have h1 := tv (by omega) (by omega); omega) | apply And.intro | intro _)
-- d

end Go.ZR
