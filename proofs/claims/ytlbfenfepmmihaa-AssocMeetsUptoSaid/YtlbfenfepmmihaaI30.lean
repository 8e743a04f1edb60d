/- Part 30 of what the closing text rests on. -/
import Derived.Test.YtlbfenfepmmihaaI24
import Derived.Test.YtlbfenfepmmihaaRows
namespace Go.ZR
open Go.Proofs
open Go.Z Go.ZM Go.RowKit
set_option maxRecDepth 100000
theorem l10_ok : COk Try.prog (ctrs l10) := cok_cons ok73 (cok_cons ok74 (cok_cons ok31w (cok_cons ok75 cok_nil)))
theorem tick_mid2 {q : PrR} (hq : okP 1900 q) (s : Int) : okP 2000 (putS q s (tickA (sideF q s) q.now).1) ∧ okO (tickA (sideF q s) q.now).2 :=
  put_mid (up50 hq) s (tick_ok (okPr.side hq s) (okNow_of hq.now (by omega))) (one_tick _ _) (evs_tick _ _)
theorem loop_step {j : Nat} {Q : PrR} (hj : j < 400) (h : 0 < lenP (roundN j Q)) (e : loopF 400 Q = loopF (400 - j) (roundN j Q)) : loopF 400 Q = loopF (400 - (j + 1)) (roundN (j + 1) Q) := by
  rw [e, show 400 - j = (400 - (j + 1)) + 1 by omega]
  show (if 0 < lenP (roundN j Q) then loopF (400 - (j + 1)) (roundF (roundN j Q)) else roundN j Q) = _
  rw [if_pos h]
  rfl
theorem loop_end {j : Nat} {Q : PrR} (hj : j ≤ 400) (h : ¬ j < 400 ∨ ¬ 0 < lenP (roundN j Q)) (e : loopF 400 Q = loopF (400 - j) (roundN j Q)) : loopF 400 Q = roundN j Q := by
  rw [e]
  rcases h with h | h
  · rw [show 400 - j = 0 by omega]; rfl
  · match 400 - j with
    | 0 => rfl
    | k + 1 =>
      show (if 0 < lenP (roundN j Q) then loopF k (roundF (roundN j Q)) else roundN j Q) = _
      rw [if_neg h]
theorem pop_0 {R : PrR} (h : (0 : Int) < (R.v.length : Int)) : popF R 0 = delF R 0 0 := if_pos (show 0 < R.v.length by omega)
theorem pop_0' {R : PrR} (h : ¬ (0 : Int) < (R.v.length : Int)) : popF R 0 = R := if_neg (show ¬ 0 < R.v.length by omega)
theorem pop_1 {R : PrR} (h : (0 : Int) < (R.w.length : Int)) : popF R 1 = delF R 1 0 := if_pos (show 0 < R.w.length by omega)
theorem pop_1' {R : PrR} (h : ¬ (0 : Int) < (R.w.length : Int)) : popF R 1 = R := if_neg (show ¬ 0 < R.w.length by omega)
theorem round_is {j : Nat} {Q R S : PrR} (h : popF (roundN j Q) 0 = R) (g : popF R 1 = S) : roundN (j + 1) Q = S := by
  show popF (popF (roundN j Q) 0) 1 = S
  rw [h, g]
theorem del_pre {R : PrR} {N : Nat} (hR : okPr N N R) (hN : N ≤ 1990) {s : Int} (hs : isS s) (h : (0 : Int) < ((wayF R s).length : Int)) :
    ∃ (q : PrR) (t : Int) (k : Nat), [prO R, iO .i64 s, iO .i64 0] = [prO q, iO .i64 t, iO .i64 (k : Int)] ∧ isS t ∧ okP 1990 q ∧ k < (wayF q t).length :=
  ⟨R, s, 0, rfl, hs, hR.mono hN hN, by omega⟩
noncomputable def code32 : Code := match Try.f32.body with | some c => c | none => .skip
@[reducible] noncomputable def q32_0 (x0 : Nat) : Int := (↑x0 : Int)
@[reducible] noncomputable def q32_1 (x0 : PrR) : Nat := x0.v.length
@[reducible] noncomputable def q32_2 (x0 : PrR) : List LtrR := ltrsOf (D.recs 4 (q32_1 x0) (ltrCell x0.v))
@[reducible] noncomputable def q32_3 (x0 : PrR) : Nat := x0.w.length
@[reducible] noncomputable def q32_4 (x0 : PrR) : List LtrR := ltrsOf (D.recs 4 (q32_3 x0) (ltrCell x0.w))
@[reducible] def q32_5 : Prop := (0 : Nat) = (0 : Nat) ∧ ∀ (i : Nat), i < (0 : Nat) → ∀ (j : Nat), j < (4 : Nat) → ltrCell noOut.pk i j = ltrCell noOut.pk i j
@[reducible] def q32_6 : Prop := noOut.ev = noOut.ev
@[reducible] def q32_7 : Prop := false = false
@[reducible] noncomputable def q32_10 (x0 : AsR × OutR) : D := D.recs 4 x0.snd.pk.length (ltrCell x0.snd.pk)
@[reducible] noncomputable def q32_11 : Int := IntKind.i64.wrap ((0 : Int) + (1 : Int))
@[reducible] def q32_12 : Prop := (0 : Int) ≤ (0 : Int) ∧ (0 : Int) < (↑(2 : Nat) : Int)
@[reducible] noncomputable def q32_13 : List O := [O.own 142 (D.recs 4 (0 : Nat) (ltrCell noOut.pk)), O.own 3 (D.ints IntKind.i64 noOut.ev)]
@[reducible] noncomputable def q32_14 (x0 : PrR) : O := O.ptr 148 (iO .u64 x0.a.key :: iO .u32 x0.a.win :: iO .i64 x0.a.life :: iO .i64 x0.a.rto :: iO .i64 x0.a.tries :: iO .u32 x0.a.ltag :: iO .u8 x0.a.lch.t :: iO .u8 x0.a.lch.f :: O.d (D.ints IntKind.u8 x0.a.lch.v) :: iO .i64 x0.a.at_ :: iO .i64 x0.a.left :: O.d (D.v (Value.bool x0.a.set)) :: iO .i64 x0.a.st :: iO .u32 x0.a.mt :: iO .u32 x0.a.ms :: iO .u32 x0.a.pt :: iO .u32 x0.a.ps :: q32_13)
@[reducible] noncomputable def q32_15 (x0 : AsR) (x1 : Int) : List O := [O.ptr 148 (iO .u64 x0.key :: iO .u32 x0.win :: iO .i64 x0.life :: iO .i64 x0.rto :: iO .i64 x0.tries :: iO .u32 x0.ltag :: iO .u8 x0.lch.t :: iO .u8 x0.lch.f :: O.d (D.ints IntKind.u8 x0.lch.v) :: iO .i64 x0.at_ :: iO .i64 x0.left :: O.d (D.v (Value.bool x0.set)) :: iO .i64 x0.st :: iO .u32 x0.mt :: iO .u32 x0.ms :: iO .u32 x0.pt :: iO .u32 x0.ps :: q32_13), iO .i64 x1]
@[reducible] noncomputable def q32_16 (x0 : PrR) : O := O.ptr 152 [iO .u64 x0.a.key, iO .u32 x0.a.win, iO .i64 x0.a.life, iO .i64 x0.a.rto, iO .i64 x0.a.tries, iO .i64 x0.a.st, iO .u32 x0.a.mt, iO .u32 x0.a.pt, iO .u32 x0.a.ms, iO .u32 x0.a.ps, iO .u32 x0.a.ltag, iO .u8 x0.a.lch.t, iO .u8 x0.a.lch.f, O.d (D.ints IntKind.u8 x0.a.lch.v), O.d (D.v (Value.bool x0.a.set)), iO .i64 x0.a.at_, iO .i64 x0.a.left, O.any, O.any]
@[reducible] noncomputable def q32_17 (x0 : AsR) (x1 : Int) : List O := [O.ptr 152 [iO .u64 x0.key, iO .u32 x0.win, iO .i64 x0.life, iO .i64 x0.rto, iO .i64 x0.tries, iO .i64 x0.st, iO .u32 x0.mt, iO .u32 x0.pt, iO .u32 x0.ms, iO .u32 x0.ps, iO .u32 x0.ltag, iO .u8 x0.lch.t, iO .u8 x0.lch.f, O.d (D.ints IntKind.u8 x0.lch.v), O.d (D.v (Value.bool x0.set)), iO .i64 x0.at_, iO .i64 x0.left, O.any, O.any], iO .i64 x1]
@[reducible] noncomputable def q32_18 (x0 : AsR × OutR) : O := O.ptr 152 [iO .u64 x0.fst.key, iO .u32 x0.fst.win, iO .i64 x0.fst.life, iO .i64 x0.fst.rto, iO .i64 x0.fst.tries, iO .i64 x0.fst.st, iO .u32 x0.fst.mt, iO .u32 x0.fst.pt, iO .u32 x0.fst.ms, iO .u32 x0.fst.ps, iO .u32 x0.fst.ltag, iO .u8 x0.fst.lch.t, iO .u8 x0.fst.lch.f, O.d (D.ints IntKind.u8 x0.fst.lch.v), O.d (D.v (Value.bool x0.fst.set)), iO .i64 x0.fst.at_, iO .i64 x0.fst.left, O.any, O.any]
@[reducible] noncomputable def q32_19 (x0 : PrR) : O := O.ptr 152 [iO .u64 x0.b.key, iO .u32 x0.b.win, iO .i64 x0.b.life, iO .i64 x0.b.rto, iO .i64 x0.b.tries, iO .i64 x0.b.st, iO .u32 x0.b.mt, iO .u32 x0.b.pt, iO .u32 x0.b.ms, iO .u32 x0.b.ps, iO .u32 x0.b.ltag, iO .u8 x0.b.lch.t, iO .u8 x0.b.lch.f, O.d (D.ints IntKind.u8 x0.b.lch.v), O.d (D.v (Value.bool x0.b.set)), iO .i64 x0.b.at_, iO .i64 x0.b.left, O.any, O.any]
@[reducible] noncomputable def q32_20 (x0 : AsR × OutR) : O := O.ptr 148 (iO .u64 x0.fst.key :: iO .u32 x0.fst.win :: iO .i64 x0.fst.life :: iO .i64 x0.fst.rto :: iO .i64 x0.fst.tries :: iO .u32 x0.fst.ltag :: iO .u8 x0.fst.lch.t :: iO .u8 x0.fst.lch.f :: O.d (D.ints IntKind.u8 x0.fst.lch.v) :: iO .i64 x0.fst.at_ :: iO .i64 x0.fst.left :: O.d (D.v (Value.bool x0.fst.set)) :: iO .i64 x0.fst.st :: iO .u32 x0.fst.mt :: iO .u32 x0.fst.ms :: iO .u32 x0.fst.pt :: iO .u32 x0.fst.ps :: q32_13)
@[reducible] noncomputable def q32_21 (x0 : PrR) : O := O.ptr 148 (iO .u64 x0.b.key :: iO .u32 x0.b.win :: iO .i64 x0.b.life :: iO .i64 x0.b.rto :: iO .i64 x0.b.tries :: iO .u32 x0.b.ltag :: iO .u8 x0.b.lch.t :: iO .u8 x0.b.lch.f :: O.d (D.ints IntKind.u8 x0.b.lch.v) :: iO .i64 x0.b.at_ :: iO .i64 x0.b.left :: O.d (D.v (Value.bool x0.b.set)) :: iO .i64 x0.b.st :: iO .u32 x0.b.mt :: iO .u32 x0.b.ms :: iO .u32 x0.b.pt :: iO .u32 x0.b.ps :: q32_13)
@[reducible] noncomputable def q32_22 (x0 : PrR) : List O := [iO .u32 x0.draw, O.d (D.v (Value.bool false)), O.d (D.v (Value.bool x0.u)), O.d (D.v (Value.bool x0.t))]
@[reducible] noncomputable def q32_23 : O := iO .i64 (0 : Int)
@[reducible] noncomputable def q32_24 (x0 : AsR × OutR) : List O := [O.agg [O.d (q32_10 x0), O.d (D.ints IntKind.i64 x0.snd.ev)], O.agg [O.d (q32_10 x0), O.d (D.ints IntKind.i64 x0.snd.ev)]]
@[reducible] noncomputable def q32_25 (x0 : OutR) : O := O.agg [O.d (D.recs 4 x0.pk.length (ltrCell x0.pk)), O.d (D.ints IntKind.i64 x0.ev)]
@[reducible] noncomputable def q32_26 (x0 : PrR) (x1 : D) (x2 : D) (x3 : Int) (x4 : OutR) : List O := [O.ptr 59 (q32_16 x0 :: q32_19 x0 :: q32_14 x0 :: q32_21 x0 :: O.own 150 x1 :: O.own 150 x2 :: iO .i64 x0.now :: q32_22 x0), iO .i64 x3, q32_25 x4, q32_25 x4]
@[reducible] def q32_27 : Prop := (0 : Int) ≤ q32_11 ∧ q32_11 < (↑(2 : Nat) : Int)
@[reducible] noncomputable def q32_28 (x0 : PrR) : List O := O.own 150 (D.recs 4 (q32_1 x0) (ltrCell x0.v)) :: O.own 150 (D.recs 4 (q32_3 x0) (ltrCell x0.w)) :: iO .i64 x0.now :: q32_22 x0
@[reducible] def q32_29 (x0 : Nat) (x1 : PrR) : Prop := x0 ≤ (400 : Nat) ∧ loopF (400 : Nat) x1 = loopF ((400 : Nat) - x0) (roundN x0 x1) ∧ okP (1000 : Nat) (roundN x0 x1)
@[reducible] def q32_30 (x0 : PrR) (x1 : Nat) (x2 : PrR) : Prop := x0.a.key = (roundN x1 x2).a.key
@[reducible] def q32_31 (x0 : PrR) (x1 : Nat) (x2 : PrR) : Prop := x0.a.win = (roundN x1 x2).a.win
@[reducible] def q32_32 (x0 : PrR) (x1 : Nat) (x2 : PrR) : Prop := x0.a.life = (roundN x1 x2).a.life
@[reducible] def q32_33 (x0 : PrR) (x1 : Nat) (x2 : PrR) : Prop := x0.a.rto = (roundN x1 x2).a.rto
@[reducible] def q32_34 (x0 : PrR) (x1 : Nat) (x2 : PrR) : Prop := x0.a.tries = (roundN x1 x2).a.tries
@[reducible] def q32_35 (x0 : PrR) (x1 : Nat) (x2 : PrR) : Prop := x0.a.st = (roundN x1 x2).a.st
@[reducible] def q32_36 (x0 : PrR) (x1 : Nat) (x2 : PrR) : Prop := x0.a.mt = (roundN x1 x2).a.mt
@[reducible] def q32_37 (x0 : PrR) (x1 : Nat) (x2 : PrR) : Prop := x0.a.pt = (roundN x1 x2).a.pt
@[reducible] def q32_38 (x0 : PrR) (x1 : Nat) (x2 : PrR) : Prop := x0.a.ms = (roundN x1 x2).a.ms
@[reducible] def q32_39 (x0 : PrR) (x1 : Nat) (x2 : PrR) : Prop := x0.a.ps = (roundN x1 x2).a.ps
@[reducible] def q32_40 (x0 : PrR) (x1 : Nat) (x2 : PrR) : Prop := x0.a.ltag = (roundN x1 x2).a.ltag
@[reducible] def q32_41 (x0 : PrR) (x1 : Nat) (x2 : PrR) : Prop := x0.a.lch.t = (roundN x1 x2).a.lch.t
@[reducible] def q32_42 (x0 : PrR) (x1 : Nat) (x2 : PrR) : Prop := x0.a.lch.f = (roundN x1 x2).a.lch.f
@[reducible] def q32_43 (x0 : PrR) (x1 : Nat) (x2 : PrR) : Prop := x0.a.lch.v = (roundN x1 x2).a.lch.v
@[reducible] def q32_44 (x0 : PrR) (x1 : Nat) (x2 : PrR) : Prop := x0.a.set = (roundN x1 x2).a.set
@[reducible] def q32_45 (x0 : PrR) (x1 : Nat) (x2 : PrR) : Prop := x0.a.at_ = (roundN x1 x2).a.at_
@[reducible] def q32_46 (x0 : PrR) (x1 : Nat) (x2 : PrR) : Prop := x0.a.left = (roundN x1 x2).a.left
@[reducible] def q32_47 (x0 : PrR) (x1 : Nat) (x2 : PrR) : Prop := x0.b.key = (roundN x1 x2).b.key
@[reducible] def q32_48 (x0 : PrR) (x1 : Nat) (x2 : PrR) : Prop := x0.b.win = (roundN x1 x2).b.win
@[reducible] def q32_49 (x0 : PrR) (x1 : Nat) (x2 : PrR) : Prop := x0.b.life = (roundN x1 x2).b.life
@[reducible] def q32_50 (x0 : PrR) (x1 : Nat) (x2 : PrR) : Prop := x0.b.rto = (roundN x1 x2).b.rto
@[reducible] def q32_51 (x0 : PrR) (x1 : Nat) (x2 : PrR) : Prop := x0.b.tries = (roundN x1 x2).b.tries
@[reducible] def q32_52 (x0 : PrR) (x1 : Nat) (x2 : PrR) : Prop := x0.b.st = (roundN x1 x2).b.st
@[reducible] def q32_53 (x0 : PrR) (x1 : Nat) (x2 : PrR) : Prop := x0.b.mt = (roundN x1 x2).b.mt
@[reducible] def q32_54 (x0 : PrR) (x1 : Nat) (x2 : PrR) : Prop := x0.b.pt = (roundN x1 x2).b.pt
@[reducible] def q32_55 (x0 : PrR) (x1 : Nat) (x2 : PrR) : Prop := x0.b.ms = (roundN x1 x2).b.ms
@[reducible] def q32_56 (x0 : PrR) (x1 : Nat) (x2 : PrR) : Prop := x0.b.ps = (roundN x1 x2).b.ps
@[reducible] def q32_57 (x0 : PrR) (x1 : Nat) (x2 : PrR) : Prop := x0.b.ltag = (roundN x1 x2).b.ltag
@[reducible] def q32_58 (x0 : PrR) (x1 : Nat) (x2 : PrR) : Prop := x0.b.lch.t = (roundN x1 x2).b.lch.t
@[reducible] def q32_59 (x0 : PrR) (x1 : Nat) (x2 : PrR) : Prop := x0.b.lch.f = (roundN x1 x2).b.lch.f
@[reducible] def q32_60 (x0 : PrR) (x1 : Nat) (x2 : PrR) : Prop := x0.b.lch.v = (roundN x1 x2).b.lch.v
@[reducible] def q32_61 (x0 : PrR) (x1 : Nat) (x2 : PrR) : Prop := x0.b.set = (roundN x1 x2).b.set
@[reducible] def q32_62 (x0 : PrR) (x1 : Nat) (x2 : PrR) : Prop := x0.b.at_ = (roundN x1 x2).b.at_
@[reducible] def q32_63 (x0 : PrR) (x1 : Nat) (x2 : PrR) : Prop := x0.b.left = (roundN x1 x2).b.left
@[reducible] def q32_64 (x0 : PrR) (x1 : Nat) (x2 : PrR) : Prop := q32_1 x0 = (roundN x1 x2).v.length ∧ ∀ (i : Nat), i < q32_1 x0 → ∀ (j : Nat), j < (4 : Nat) →
  ltrCell x0.v i j = ltrCell (roundN x1 x2).v i j
@[reducible] def q32_65 (x0 : PrR) (x1 : Nat) (x2 : PrR) : Prop := q32_3 x0 = (roundN x1 x2).w.length ∧ ∀ (i : Nat), i < q32_3 x0 → ∀ (j : Nat), j < (4 : Nat) →
  ltrCell x0.w i j = ltrCell (roundN x1 x2).w i j
@[reducible] noncomputable def q32_67 (x0 : PrR) : O := O.ptr 59 (q32_16 x0 :: q32_19 x0 :: q32_14 x0 :: q32_21 x0 :: q32_28 x0)
@[reducible] noncomputable def q32_68 (x0 : PrR) : Bool := decide ((0 : Int) < (↑(q32_3 x0) : Int))
@[reducible] def q32_69 (x0 : PrR) : Prop := ∃ (p_2 : PrR), ∃ (s : Int), ∃ (k : Nat), [q32_67 x0, iO .i64 q32_11, q32_23] = [q32_67 p_2, iO .i64 s, iO .i64 (q32_0 k)] ∧
  (s = (0 : Int) ∨ s = (1 : Int)) ∧ okP (1990 : Nat) p_2 ∧ k < (wayF p_2 s).length
@[reducible] def q32_70 (x0 : Nat) (x1 : Nat) : Prop := IntKind.i64.wrap (q32_0 x0 + (1 : Int)) = q32_0 x1
@[reducible] noncomputable def q32_72 : Option SV := some (SV.c (Value.bool (decide (IntKind.i64.wrap (q32_11 + (1 : Int)) < (2 : Int)))))
@[reducible] noncomputable def q32_73 : Option SV := some (SV.c (Value.int IntKind.i64 (IntKind.i64.wrap (q32_11 + (1 : Int)))))
@[reducible] def q32_74 : Prop := some (SV.c (Value.int IntKind.i64 q32_11)) = some (SV.c (Value.int IntKind.i64 q32_11))
@[reducible] def q32_75 (x0 : PrR) : Prop := some (SV.c (Value.int IntKind.i64 x0.now)) = some (SV.c (Value.int IntKind.i64 x0.now))
@[reducible] def q32_76 : Prop := some (SV.p (14 : Nat) (6 : Nat)) = some (SV.p (14 : Nat) (6 : Nat))
@[reducible] def q32_77 : Prop := some (SV.p (14 : Nat) (0 : Nat)) = some (SV.p (14 : Nat) (0 : Nat))
@[reducible] noncomputable def q32_78 (x0 : Nat) (x1 : Nat) : Option SV := some (SV.c (Value.bool (decide (q32_0 x0 < q32_0 x1))))
@[reducible] def q32_79 (x0 : Nat) : Prop := some (SV.c (Value.int IntKind.i64 (q32_0 x0))) = some (SV.c (Value.int IntKind.i64 (q32_0 x0)))
@[reducible] def q32_80 (x0 : PrR) : Prop := some (R.ro (D.ints IntKind.u8 x0.b.lch.v)) = some (R.ro (D.ints IntKind.u8 x0.b.lch.v))
@[reducible] def q32_81 (x0 : PrR) : Prop := some (R.ro (D.ints IntKind.u8 x0.a.lch.v)) = some (R.ro (D.ints IntKind.u8 x0.a.lch.v))
@[reducible] def q32_82 : Prop := some R.dead = some R.dead
@[reducible] def q32_83 (x0 : AsR × OutR) : Prop := some (R.ro (D.ints IntKind.i64 x0.snd.ev)) = some (R.ro (D.ints IntKind.i64 x0.snd.ev))
@[reducible] def q32_84 (x0 : AsR × OutR) : Prop := some (R.ro (q32_10 x0)) = some (R.ro (q32_10 x0))
@[reducible] def q32_85 (x0 : AsR × OutR) : Prop := some (R.ro (D.ints IntKind.u8 x0.fst.lch.v)) = some (R.ro (D.ints IntKind.u8 x0.fst.lch.v))
@[reducible] def q32_86 (x0 : PrR) (x1 : PrR) (x2 : Nat) (x3 : Nat) (x4 : PrR) (x5 : AsR × OutR) (x6 : AsR × OutR) (x7 : PrR) : Prop := (q32_72 = q32_72 ∧
  q32_73 = q32_73 ∧ q32_73 = q32_73 ∧ q32_73 = q32_73 ∧ q32_74 ∧ some (SV.tup []) = some (SV.tup []) ∧ some (SV.agg [SV.a (57 : Nat), SV.a (58 : Nat)]) = some (SV.agg [SV.a (57 : Nat), SV.a (58 : Nat)]) ∧
  some (SV.agg [SV.a (54 : Nat), SV.a (55 : Nat)]) = some (SV.agg [SV.a (54 : Nat), SV.a (55 : Nat)]) ∧ q32_75 x0 ∧ q32_76 ∧ q32_77 ∧ q32_77 ∧ some (SV.p (40 : Nat) (0 : Nat)) = some (SV.p (40 : Nat) (0 : Nat)) ∧
  some (SV.p (14 : Nat) (1 : Nat)) = some (SV.p (14 : Nat) (1 : Nat)) ∧ q32_77 ∧ q32_77 ∧ q32_74 ∧ q32_77 ∧ q32_75 x0 ∧ q32_76 ∧ q32_77 ∧ q32_77 ∧ some (SV.p (48 : Nat) (0 : Nat)) = some (SV.p (48 : Nat) (0 : Nat)) ∧
  some (SV.p (14 : Nat) (3 : Nat)) = some (SV.p (14 : Nat) (3 : Nat)) ∧ some (SV.p (14 : Nat) (2 : Nat)) = some (SV.p (14 : Nat) (2 : Nat)) ∧ q32_77 ∧ q32_74 ∧
  q32_77 ∧ q32_74 ∧ q32_77 ∧ q32_76 ∧ q32_77 ∧ some (SV.c (Value.int IntKind.i64 (IntKind.i64.wrap (x1.now + (1 : Int))))) = some (SV.c (Value.int IntKind.i64 (IntKind.i64.wrap (x1.now + (1 : Int))))) ∧
  q32_75 x1 ∧ q32_76 ∧ q32_77 ∧ q32_77 ∧ q32_78 x2 x3 = q32_78 x2 x3 ∧ q32_79 x3 ∧ q32_79 x2 ∧ q32_79 x2 ∧ q32_77 ∧ q32_79 x3 ∧ True) ∧ q32_80 x4 ∧ q32_81 x4 ∧
  q32_80 x4 ∧ q32_81 x4 ∧ q32_82 ∧ q32_82 ∧ q32_82 ∧ q32_82 ∧ q32_82 ∧ q32_82 ∧ q32_82 ∧ q32_82 ∧ q32_82 ∧ q32_82 ∧ q32_83 x5 ∧ q32_84 x5 ∧ q32_83 x5 ∧ q32_84 x5 ∧
  q32_85 x5 ∧ q32_85 x5 ∧ q32_82 ∧ q32_82 ∧ q32_80 x0 ∧ q32_81 x0 ∧ q32_80 x0 ∧ q32_81 x0 ∧ q32_82 ∧ q32_82 ∧ q32_82 ∧ q32_82 ∧ q32_82 ∧ q32_82 ∧ q32_82 ∧
  q32_82 ∧ q32_82 ∧ q32_82 ∧ q32_83 x6 ∧ q32_84 x6 ∧ q32_83 x6 ∧ q32_84 x6 ∧ q32_85 x6 ∧ q32_85 x6 ∧ q32_82 ∧ q32_82 ∧ q32_80 x1 ∧ q32_81 x1 ∧ q32_80 x1 ∧
  q32_81 x1 ∧ q32_82 ∧ q32_82 ∧ q32_82 ∧ q32_82 ∧ q32_82 ∧ q32_82 ∧ q32_82 ∧ q32_82 ∧ q32_82 ∧ q32_82 ∧ q32_80 x7 ∧ q32_81 x7 ∧ q32_80 x7 ∧ q32_81 x7 ∧ True
@[reducible] def q32_87 (x0 : Nat) (x1 : Nat) (x2 : PrR) (x3 : PrR) : Prop := q32_70 x0 x1 ∧ q32_30 x2 x1 x3 ∧ q32_31 x2 x1 x3 ∧ q32_32 x2 x1 x3 ∧ q32_33 x2 x1 x3 ∧
  q32_34 x2 x1 x3 ∧ q32_35 x2 x1 x3 ∧ q32_36 x2 x1 x3 ∧ q32_37 x2 x1 x3 ∧ q32_38 x2 x1 x3 ∧ q32_39 x2 x1 x3 ∧ q32_40 x2 x1 x3 ∧ q32_41 x2 x1 x3 ∧ q32_42 x2 x1 x3 ∧
  q32_43 x2 x1 x3 ∧ q32_44 x2 x1 x3 ∧ q32_45 x2 x1 x3 ∧ q32_46 x2 x1 x3 ∧ q32_47 x2 x1 x3 ∧ q32_48 x2 x1 x3 ∧ q32_49 x2 x1 x3 ∧ q32_50 x2 x1 x3 ∧ q32_51 x2 x1 x3 ∧
  q32_52 x2 x1 x3 ∧ q32_53 x2 x1 x3 ∧ q32_54 x2 x1 x3 ∧ q32_55 x2 x1 x3 ∧ q32_56 x2 x1 x3 ∧ q32_57 x2 x1 x3 ∧ q32_58 x2 x1 x3 ∧ q32_59 x2 x1 x3 ∧ q32_60 x2 x1 x3 ∧
  q32_61 x2 x1 x3 ∧ q32_62 x2 x1 x3 ∧ q32_63 x2 x1 x3 ∧ q32_30 x2 x1 x3 ∧ q32_31 x2 x1 x3 ∧ q32_32 x2 x1 x3 ∧ q32_33 x2 x1 x3 ∧ q32_34 x2 x1 x3 ∧ q32_40 x2 x1 x3 ∧
  q32_41 x2 x1 x3 ∧ q32_42 x2 x1 x3 ∧ q32_43 x2 x1 x3 ∧ q32_45 x2 x1 x3 ∧ q32_46 x2 x1 x3 ∧ q32_44 x2 x1 x3 ∧ q32_35 x2 x1 x3 ∧ q32_36 x2 x1 x3 ∧ q32_38 x2 x1 x3 ∧
  q32_37 x2 x1 x3 ∧ q32_39 x2 x1 x3 ∧ q32_5 ∧ q32_6 ∧ q32_47 x2 x1 x3 ∧ q32_48 x2 x1 x3 ∧ q32_49 x2 x1 x3 ∧ q32_50 x2 x1 x3 ∧ q32_51 x2 x1 x3 ∧ q32_57 x2 x1 x3 ∧
  q32_58 x2 x1 x3 ∧ q32_59 x2 x1 x3 ∧ q32_60 x2 x1 x3 ∧ q32_62 x2 x1 x3 ∧ q32_63 x2 x1 x3 ∧ q32_61 x2 x1 x3 ∧ q32_52 x2 x1 x3 ∧ q32_53 x2 x1 x3 ∧ q32_55 x2 x1 x3 ∧
  q32_54 x2 x1 x3 ∧ q32_56 x2 x1 x3 ∧ q32_5 ∧ q32_6 ∧ q32_64 x2 x1 x3 ∧ q32_65 x2 x1 x3 ∧ x2.now = (roundN x1 x3).now ∧ x2.draw = (roundN x1 x3).draw ∧ q32_7 ∧
  x2.u = (roundN x1 x3).u ∧ x2.t = (roundN x1 x3).t ∧ (true && true && true && true) = true
@[reducible] noncomputable def q32_88 : Bool := true && true && true
@[reducible] def q32_89 (x0 : Nat) (x1 : Nat) (x2 : PrR) (x3 : PrR) : Prop := True ∧ ∃ (g' : Nat), g' ≤ x0 ∧ x0 - g' < x0 - x1 ∧ (q32_70 x1 g' ∧ x2.a.key = (calmF g' x3).a.key ∧
  x2.a.win = (calmF g' x3).a.win ∧ x2.a.life = (calmF g' x3).a.life ∧ x2.a.rto = (calmF g' x3).a.rto ∧ x2.a.tries = (calmF g' x3).a.tries ∧ x2.a.st = (calmF g' x3).a.st ∧
  x2.a.mt = (calmF g' x3).a.mt ∧ x2.a.pt = (calmF g' x3).a.pt ∧ x2.a.ms = (calmF g' x3).a.ms ∧ x2.a.ps = (calmF g' x3).a.ps ∧ x2.a.ltag = (calmF g' x3).a.ltag ∧
  x2.a.lch.t = (calmF g' x3).a.lch.t ∧ x2.a.lch.f = (calmF g' x3).a.lch.f ∧ x2.a.lch.v = (calmF g' x3).a.lch.v ∧ x2.a.set = (calmF g' x3).a.set ∧ x2.a.at_ = (calmF g' x3).a.at_ ∧
  x2.a.left = (calmF g' x3).a.left ∧ x2.b.key = (calmF g' x3).b.key ∧ x2.b.win = (calmF g' x3).b.win ∧ x2.b.life = (calmF g' x3).b.life ∧ x2.b.rto = (calmF g' x3).b.rto ∧
  x2.b.tries = (calmF g' x3).b.tries ∧ x2.b.st = (calmF g' x3).b.st ∧ x2.b.mt = (calmF g' x3).b.mt ∧ x2.b.pt = (calmF g' x3).b.pt ∧ x2.b.ms = (calmF g' x3).b.ms ∧
  x2.b.ps = (calmF g' x3).b.ps ∧ x2.b.ltag = (calmF g' x3).b.ltag ∧ x2.b.lch.t = (calmF g' x3).b.lch.t ∧ x2.b.lch.f = (calmF g' x3).b.lch.f ∧ x2.b.lch.v = (calmF g' x3).b.lch.v ∧
  x2.b.set = (calmF g' x3).b.set ∧ x2.b.at_ = (calmF g' x3).b.at_ ∧ x2.b.left = (calmF g' x3).b.left ∧ x2.a.key = (calmF g' x3).a.key ∧ x2.a.win = (calmF g' x3).a.win ∧
  x2.a.life = (calmF g' x3).a.life ∧ x2.a.rto = (calmF g' x3).a.rto ∧ x2.a.tries = (calmF g' x3).a.tries ∧ x2.a.ltag = (calmF g' x3).a.ltag ∧ x2.a.lch.t = (calmF g' x3).a.lch.t ∧
  x2.a.lch.f = (calmF g' x3).a.lch.f ∧ x2.a.lch.v = (calmF g' x3).a.lch.v ∧ x2.a.at_ = (calmF g' x3).a.at_ ∧ x2.a.left = (calmF g' x3).a.left ∧ x2.a.set = (calmF g' x3).a.set ∧
  x2.a.st = (calmF g' x3).a.st ∧ x2.a.mt = (calmF g' x3).a.mt ∧ x2.a.ms = (calmF g' x3).a.ms ∧ x2.a.pt = (calmF g' x3).a.pt ∧ x2.a.ps = (calmF g' x3).a.ps ∧
  q32_5 ∧ q32_6 ∧ x2.b.key = (calmF g' x3).b.key ∧ x2.b.win = (calmF g' x3).b.win ∧ x2.b.life = (calmF g' x3).b.life ∧ x2.b.rto = (calmF g' x3).b.rto ∧ x2.b.tries = (calmF g' x3).b.tries ∧
  x2.b.ltag = (calmF g' x3).b.ltag ∧ x2.b.lch.t = (calmF g' x3).b.lch.t ∧ x2.b.lch.f = (calmF g' x3).b.lch.f ∧ x2.b.lch.v = (calmF g' x3).b.lch.v ∧ x2.b.at_ = (calmF g' x3).b.at_ ∧
  x2.b.left = (calmF g' x3).b.left ∧ x2.b.set = (calmF g' x3).b.set ∧ x2.b.st = (calmF g' x3).b.st ∧ x2.b.mt = (calmF g' x3).b.mt ∧ x2.b.ms = (calmF g' x3).b.ms ∧
  x2.b.pt = (calmF g' x3).b.pt ∧ x2.b.ps = (calmF g' x3).b.ps ∧ q32_5 ∧ q32_6 ∧ (q32_1 x2 = (calmF g' x3).v.length ∧ ∀ (i : Nat), i < q32_1 x2 → ∀ (j : Nat), j < (4 : Nat) →
  ltrCell x2.v i j = ltrCell (calmF g' x3).v i j) ∧ (q32_3 x2 = (calmF g' x3).w.length ∧ ∀ (i : Nat), i < q32_3 x2 → ∀ (j : Nat), j < (4 : Nat) → ltrCell x2.w i j = ltrCell (calmF g' x3).w i j) ∧
  x2.now = (calmF g' x3).now ∧ x2.draw = (calmF g' x3).draw ∧ q32_7 ∧ x2.u = (calmF g' x3).u ∧ x2.t = (calmF g' x3).t ∧ (q32_88 && true) = true) ∧
  (q32_77 ∧ q32_79 x0 ∧ True) ∧ q32_80 x3 ∧ q32_81 x3 ∧ q32_80 x3 ∧ q32_81 x3 ∧ True
set_option maxHeartbeats 4000000 in
theorem vc32 : ∀ (p : PrR) (n : Nat), have y := calmF (q32_0 n).toNat (PrR.mk p.a p.b (q32_2 p) (q32_4 p) p.now p.draw p.u p.t); n ≤ (30 : Nat) → okP (500 : Nat) p →
  ∃ (g0 : Nat), g0 ≤ n ∧ (0 : Int) = q32_0 g0 ∧ p.a.key = (calmF g0 p).a.key ∧ p.a.win = (calmF g0 p).a.win ∧ p.a.life = (calmF g0 p).a.life ∧ p.a.rto = (calmF g0 p).a.rto ∧
  p.a.tries = (calmF g0 p).a.tries ∧ p.a.st = (calmF g0 p).a.st ∧ p.a.mt = (calmF g0 p).a.mt ∧ p.a.pt = (calmF g0 p).a.pt ∧ p.a.ms = (calmF g0 p).a.ms ∧ p.a.ps = (calmF g0 p).a.ps ∧
  p.a.ltag = (calmF g0 p).a.ltag ∧ p.a.lch.t = (calmF g0 p).a.lch.t ∧ p.a.lch.f = (calmF g0 p).a.lch.f ∧ p.a.lch.v = (calmF g0 p).a.lch.v ∧ p.a.set = (calmF g0 p).a.set ∧
  p.a.at_ = (calmF g0 p).a.at_ ∧ p.a.left = (calmF g0 p).a.left ∧ p.b.key = (calmF g0 p).b.key ∧ p.b.win = (calmF g0 p).b.win ∧ p.b.life = (calmF g0 p).b.life ∧
  p.b.rto = (calmF g0 p).b.rto ∧ p.b.tries = (calmF g0 p).b.tries ∧ p.b.st = (calmF g0 p).b.st ∧ p.b.mt = (calmF g0 p).b.mt ∧ p.b.pt = (calmF g0 p).b.pt ∧
  p.b.ms = (calmF g0 p).b.ms ∧ p.b.ps = (calmF g0 p).b.ps ∧ p.b.ltag = (calmF g0 p).b.ltag ∧ p.b.lch.t = (calmF g0 p).b.lch.t ∧ p.b.lch.f = (calmF g0 p).b.lch.f ∧
  p.b.lch.v = (calmF g0 p).b.lch.v ∧ p.b.set = (calmF g0 p).b.set ∧ p.b.at_ = (calmF g0 p).b.at_ ∧ p.b.left = (calmF g0 p).b.left ∧ p.a.key = (calmF g0 p).a.key ∧
  p.a.win = (calmF g0 p).a.win ∧ p.a.life = (calmF g0 p).a.life ∧ p.a.rto = (calmF g0 p).a.rto ∧ p.a.tries = (calmF g0 p).a.tries ∧ p.a.ltag = (calmF g0 p).a.ltag ∧
  p.a.lch.t = (calmF g0 p).a.lch.t ∧ p.a.lch.f = (calmF g0 p).a.lch.f ∧ p.a.lch.v = (calmF g0 p).a.lch.v ∧ p.a.at_ = (calmF g0 p).a.at_ ∧ p.a.left = (calmF g0 p).a.left ∧
  p.a.set = (calmF g0 p).a.set ∧ p.a.st = (calmF g0 p).a.st ∧ p.a.mt = (calmF g0 p).a.mt ∧ p.a.ms = (calmF g0 p).a.ms ∧ p.a.pt = (calmF g0 p).a.pt ∧ p.a.ps = (calmF g0 p).a.ps ∧
  q32_5 ∧ q32_6 ∧ p.b.key = (calmF g0 p).b.key ∧ p.b.win = (calmF g0 p).b.win ∧ p.b.life = (calmF g0 p).b.life ∧ p.b.rto = (calmF g0 p).b.rto ∧ p.b.tries = (calmF g0 p).b.tries ∧
  p.b.ltag = (calmF g0 p).b.ltag ∧ p.b.lch.t = (calmF g0 p).b.lch.t ∧ p.b.lch.f = (calmF g0 p).b.lch.f ∧ p.b.lch.v = (calmF g0 p).b.lch.v ∧ p.b.at_ = (calmF g0 p).b.at_ ∧
  p.b.left = (calmF g0 p).b.left ∧ p.b.set = (calmF g0 p).b.set ∧ p.b.st = (calmF g0 p).b.st ∧ p.b.mt = (calmF g0 p).b.mt ∧ p.b.ms = (calmF g0 p).b.ms ∧ p.b.pt = (calmF g0 p).b.pt ∧
  p.b.ps = (calmF g0 p).b.ps ∧ q32_5 ∧ q32_6 ∧ (q32_1 p = (calmF g0 p).v.length ∧ ∀ (i : Nat), i < q32_1 p → ∀ (j : Nat), j < (4 : Nat) → ltrCell p.v i j = ltrCell (calmF g0 p).v i j) ∧
  (q32_3 p = (calmF g0 p).w.length ∧ ∀ (i : Nat), i < q32_3 p → ∀ (j : Nat), j < (4 : Nat) → ltrCell p.w i j = ltrCell (calmF g0 p).w i j) ∧ p.now = (calmF g0 p).now ∧
  p.draw = (calmF g0 p).draw ∧ q32_7 ∧ p.u = (calmF g0 p).u ∧ p.t = (calmF g0 p).t ∧ (true && true && true) = true ∧
  ∀ (g : Nat), have y_1 := calmF g p; have y_2 := q32_4 y_1; have y_3 := q32_2 y_1; have y_4 := tickA y_1.a (IntKind.i64.wrap (y_1.now + (1 : Int))); have y_5 := ltrsOf (q32_10 y_4);
  have y_6 := saidF (PrR.mk y_4.fst y_1.b y_3 y_2 (IntKind.i64.wrap (y_1.now + (1 : Int))) y_1.draw y_1.u y_1.t) (0 : Int) (OutR.mk y_5 y_4.snd.ev); have y_7 := tickA y_6.b y_6.now;
  have y_8 := ltrsOf (q32_10 y_7); have y_9 := saidF (PrR.mk y_6.a y_7.fst (q32_2 y_6) (q32_4 y_6) y_6.now y_6.draw y_6.u y_6.t) q32_11 (OutR.mk y_8 y_7.snd.ev);
  g ≤ n → True ∧ sw (decide (q32_0 g < q32_0 n)) (True ∧ True ∧ q32_12 ∧ q32_12 ∧ ((∃ (s : AsR), ∃ (w : Int), [q32_14 y_1, iO .i64 (IntKind.i64.wrap (y_1.now + (1 : Int)))] = q32_15 s w ∧
  okAs s ∧ okNow w) ∧ ((∃ (s : AsR), ∃ (w : Int), [q32_16 y_1, iO .i64 (IntKind.i64.wrap (y_1.now + (1 : Int)))] = q32_17 s w ∧
  okAs s ∧ okNow w) ∧ ((∃ (p_1 : PrR), ∃ (s : Int), ∃ (o : OutR), ∃ (A : D), ∃ (B : D), O.ptr 59 (q32_18 y_4 :: q32_19 y_1 :: q32_20 y_4 :: q32_21 y_1 :: O.own 150 (D.recs 4 (q32_1 y_1) (ltrCell y_1.v)) :: O.own 150 (D.recs 4 (q32_3 y_1) (ltrCell y_1.w)) :: iO .i64 (IntKind.i64.wrap (y_1.now + (1 : Int))) :: q32_22 y_1) :: q32_23 :: q32_24 y_4 = q32_26 p_1 A B s o ∧
  (s = (0 : Int) ∨ s = (1 : Int)) ∧ asLt A p_1.v ∧ asLt B p_1.w ∧ okP (2000 : Nat) p_1 ∧ okO o) ∧ True ∧ True ∧ q32_27 ∧ q32_27 ∧ ((∃ (s : AsR), ∃ (w : Int), [q32_21 y_6, iO .i64 y_6.now] = q32_15 s w ∧
  okAs s ∧ okNow w) ∧ ((∃ (s : AsR), ∃ (w : Int), [q32_19 y_6, iO .i64 y_6.now] = q32_17 s w ∧ okAs s ∧ okNow w) ∧ ((∃ (p_1 : PrR), ∃ (s : Int), ∃ (o : OutR), ∃ (A : D), ∃ (B : D), O.ptr 59 (q32_16 y_6 :: q32_18 y_7 :: q32_14 y_6 :: q32_20 y_7 :: q32_28 y_6) :: iO .i64 q32_11 :: q32_24 y_7 = q32_26 p_1 A B s o ∧
  (s = (0 : Int) ∨ s = (1 : Int)) ∧ asLt A p_1.v ∧ asLt B p_1.w ∧ okP (2000 : Nat) p_1 ∧ okO o) ∧ True ∧ True ∧ ∃ (p_1 : PrR), ∃ (g0_1 : Nat), q32_29 g0_1 p_1 ∧
  (0 : Int) = q32_0 g0_1 ∧ q32_30 y_9 g0_1 p_1 ∧ q32_31 y_9 g0_1 p_1 ∧ q32_32 y_9 g0_1 p_1 ∧ q32_33 y_9 g0_1 p_1 ∧ q32_34 y_9 g0_1 p_1 ∧ q32_35 y_9 g0_1 p_1 ∧
  q32_36 y_9 g0_1 p_1 ∧ q32_37 y_9 g0_1 p_1 ∧ q32_38 y_9 g0_1 p_1 ∧ q32_39 y_9 g0_1 p_1 ∧ q32_40 y_9 g0_1 p_1 ∧ q32_41 y_9 g0_1 p_1 ∧ q32_42 y_9 g0_1 p_1 ∧
  q32_43 y_9 g0_1 p_1 ∧ q32_44 y_9 g0_1 p_1 ∧ q32_45 y_9 g0_1 p_1 ∧ q32_46 y_9 g0_1 p_1 ∧ q32_47 y_9 g0_1 p_1 ∧ q32_48 y_9 g0_1 p_1 ∧ q32_49 y_9 g0_1 p_1 ∧
  q32_50 y_9 g0_1 p_1 ∧ q32_51 y_9 g0_1 p_1 ∧ q32_52 y_9 g0_1 p_1 ∧ q32_53 y_9 g0_1 p_1 ∧ q32_54 y_9 g0_1 p_1 ∧ q32_55 y_9 g0_1 p_1 ∧ q32_56 y_9 g0_1 p_1 ∧
  q32_57 y_9 g0_1 p_1 ∧ q32_58 y_9 g0_1 p_1 ∧ q32_59 y_9 g0_1 p_1 ∧ q32_60 y_9 g0_1 p_1 ∧ q32_61 y_9 g0_1 p_1 ∧ q32_62 y_9 g0_1 p_1 ∧ q32_63 y_9 g0_1 p_1 ∧
  q32_30 y_9 g0_1 p_1 ∧ q32_31 y_9 g0_1 p_1 ∧ q32_32 y_9 g0_1 p_1 ∧ q32_33 y_9 g0_1 p_1 ∧ q32_34 y_9 g0_1 p_1 ∧ q32_40 y_9 g0_1 p_1 ∧ q32_41 y_9 g0_1 p_1 ∧
  q32_42 y_9 g0_1 p_1 ∧ q32_43 y_9 g0_1 p_1 ∧ q32_45 y_9 g0_1 p_1 ∧ q32_46 y_9 g0_1 p_1 ∧ q32_44 y_9 g0_1 p_1 ∧ q32_35 y_9 g0_1 p_1 ∧ q32_36 y_9 g0_1 p_1 ∧
  q32_38 y_9 g0_1 p_1 ∧ q32_37 y_9 g0_1 p_1 ∧ q32_39 y_9 g0_1 p_1 ∧ q32_5 ∧ q32_6 ∧ q32_47 y_9 g0_1 p_1 ∧ q32_48 y_9 g0_1 p_1 ∧ q32_49 y_9 g0_1 p_1 ∧ q32_50 y_9 g0_1 p_1 ∧
  q32_51 y_9 g0_1 p_1 ∧ q32_57 y_9 g0_1 p_1 ∧ q32_58 y_9 g0_1 p_1 ∧ q32_59 y_9 g0_1 p_1 ∧ q32_60 y_9 g0_1 p_1 ∧ q32_62 y_9 g0_1 p_1 ∧ q32_63 y_9 g0_1 p_1 ∧
  q32_61 y_9 g0_1 p_1 ∧ q32_52 y_9 g0_1 p_1 ∧ q32_53 y_9 g0_1 p_1 ∧ q32_55 y_9 g0_1 p_1 ∧ q32_54 y_9 g0_1 p_1 ∧ q32_56 y_9 g0_1 p_1 ∧ q32_5 ∧ q32_6 ∧ q32_64 y_9 g0_1 p_1 ∧
  q32_65 y_9 g0_1 p_1 ∧ y_9.now = (roundN g0_1 p_1).now ∧ y_9.draw = (roundN g0_1 p_1).draw ∧ q32_7 ∧ y_9.u = (roundN g0_1 p_1).u ∧ y_9.t = (roundN g0_1 p_1).t ∧
  (true && true && true) = true ∧
  ∀ (g_1 : Nat), have y_10 := roundN g_1 p_1; have y_11 := q32_4 y_10; have y_12 := q32_2 y_10; have y_13 := delF (PrR.mk y_10.a y_10.b y_12 y_11 y_10.now y_10.draw y_10.u y_10.t) (0 : Int) (Int.toNat (0 : Int));
  have y_14 := delF (PrR.mk y_10.a y_10.b y_12 y_11 y_10.now y_10.draw y_10.u y_10.t) q32_11 (Int.toNat (0 : Int)); have y_15 := delF (PrR.mk y_13.a y_13.b (q32_2 y_13) (q32_4 y_13) y_13.now y_13.draw y_13.u y_13.t) q32_11 (Int.toNat (0 : Int));
  g_1 ≤ (400 : Nat) ∧ loopF (400 : Nat) p_1 = loopF ((400 : Nat) - g_1) y_10 ∧ okP (1000 : Nat) y_10 → True ∧ sw (decide (q32_0 g_1 < (400 : Int))) (q32_12 ∧
  ((0 : Int) ≤ (1 : Int) ∧ (1 : Int) < (↑(2 : Nat) : Int)) ∧ True ∧ True ∧ sw (decide ((0 : Int) < IntKind.i64.wrap ((↑(q32_1 y_10) : Int) + (↑(q32_3 y_10) : Int)))) (True ∧
  q32_12 ∧ True ∧ sw (decide ((0 : Int) < (↑(q32_1 y_10) : Int))) ((∃ (p_2 : PrR), ∃ (s : Int), ∃ (k : Nat), [q32_67 y_10, q32_23, q32_23] = [q32_67 p_2, iO .i64 s, iO .i64 (q32_0 k)] ∧
  (s = (0 : Int) ∨ s = (1 : Int)) ∧ okP (1990 : Nat) p_2 ∧ k < (wayF p_2 s).length) ∧ True ∧ True ∧ q32_27 ∧ True ∧ sw (q32_68 y_13) (q32_69 y_13 ∧ True ∧
  True ∧ True ∧ ∃ (g' : Nat), q32_29 g' p_1 ∧ (400 : Nat) - g' < (400 : Nat) - g_1 ∧ (q32_70 g_1 g' ∧ q32_30 y_15 g' p_1 ∧ q32_31 y_15 g' p_1 ∧ q32_32 y_15 g' p_1 ∧
  q32_33 y_15 g' p_1 ∧ q32_34 y_15 g' p_1 ∧ q32_35 y_15 g' p_1 ∧ q32_36 y_15 g' p_1 ∧ q32_37 y_15 g' p_1 ∧ q32_38 y_15 g' p_1 ∧ q32_39 y_15 g' p_1 ∧ q32_40 y_15 g' p_1 ∧
  q32_41 y_15 g' p_1 ∧ q32_42 y_15 g' p_1 ∧ q32_43 y_15 g' p_1 ∧ q32_44 y_15 g' p_1 ∧ q32_45 y_15 g' p_1 ∧ q32_46 y_15 g' p_1 ∧ q32_47 y_15 g' p_1 ∧ q32_48 y_15 g' p_1 ∧
  q32_49 y_15 g' p_1 ∧ q32_50 y_15 g' p_1 ∧ q32_51 y_15 g' p_1 ∧ q32_52 y_15 g' p_1 ∧ q32_53 y_15 g' p_1 ∧ q32_54 y_15 g' p_1 ∧ q32_55 y_15 g' p_1 ∧ q32_56 y_15 g' p_1 ∧
  q32_57 y_15 g' p_1 ∧ q32_58 y_15 g' p_1 ∧ q32_59 y_15 g' p_1 ∧ q32_60 y_15 g' p_1 ∧ q32_61 y_15 g' p_1 ∧ q32_62 y_15 g' p_1 ∧ q32_63 y_15 g' p_1 ∧ q32_30 y_15 g' p_1 ∧
  q32_31 y_15 g' p_1 ∧ q32_32 y_15 g' p_1 ∧ q32_33 y_15 g' p_1 ∧ q32_34 y_15 g' p_1 ∧ q32_40 y_15 g' p_1 ∧ q32_41 y_15 g' p_1 ∧ q32_42 y_15 g' p_1 ∧ q32_43 y_15 g' p_1 ∧
  q32_45 y_15 g' p_1 ∧ q32_46 y_15 g' p_1 ∧ q32_44 y_15 g' p_1 ∧ q32_35 y_15 g' p_1 ∧ q32_36 y_15 g' p_1 ∧ q32_38 y_15 g' p_1 ∧ q32_37 y_15 g' p_1 ∧ q32_39 y_15 g' p_1 ∧
  q32_5 ∧ q32_6 ∧ q32_47 y_15 g' p_1 ∧ q32_48 y_15 g' p_1 ∧ q32_49 y_15 g' p_1 ∧ q32_50 y_15 g' p_1 ∧ q32_51 y_15 g' p_1 ∧ q32_57 y_15 g' p_1 ∧ q32_58 y_15 g' p_1 ∧
  q32_59 y_15 g' p_1 ∧ q32_60 y_15 g' p_1 ∧ q32_62 y_15 g' p_1 ∧ q32_63 y_15 g' p_1 ∧ q32_61 y_15 g' p_1 ∧ q32_52 y_15 g' p_1 ∧ q32_53 y_15 g' p_1 ∧ q32_55 y_15 g' p_1 ∧
  q32_54 y_15 g' p_1 ∧ q32_56 y_15 g' p_1 ∧ q32_5 ∧ q32_6 ∧ q32_64 y_15 g' p_1 ∧ q32_65 y_15 g' p_1 ∧ y_15.now = (roundN g' p_1).now ∧ y_15.draw = (roundN g' p_1).draw ∧
  q32_7 ∧ y_15.u = (roundN g' p_1).u ∧ y_15.t = (roundN g' p_1).t ∧ (true && true && true && true) = true) ∧
  q32_86 y_6 y_1 g n y_9 y_7 y_4 p) (True ∧ True ∧ True ∧ ∃ (g' : Nat), q32_29 g' p_1 ∧ (400 : Nat) - g' < (400 : Nat) - g_1 ∧ q32_87 g_1 g' y_13 p_1 ∧ q32_86 y_6 y_1 g n y_9 y_7 y_4 p)) (True ∧
  True ∧ q32_27 ∧ True ∧ sw (q32_68 y_10) (q32_69 y_10 ∧ True ∧ True ∧ True ∧ ∃ (g' : Nat), q32_29 g' p_1 ∧ (400 : Nat) - g' < (400 : Nat) - g_1 ∧ q32_87 g_1 g' y_14 p_1 ∧
  q32_86 y_6 y_1 g n y_9 y_7 y_4 p) (True ∧ True ∧ True ∧ ∃ (g' : Nat), q32_29 g' p_1 ∧ (400 : Nat) - g' < (400 : Nat) - g_1 ∧ (q32_70 g_1 g' ∧ q32_30 y_10 g' p_1 ∧
  q32_31 y_10 g' p_1 ∧ q32_32 y_10 g' p_1 ∧ q32_33 y_10 g' p_1 ∧ q32_34 y_10 g' p_1 ∧ q32_35 y_10 g' p_1 ∧ q32_36 y_10 g' p_1 ∧ q32_37 y_10 g' p_1 ∧ q32_38 y_10 g' p_1 ∧
  q32_39 y_10 g' p_1 ∧ q32_40 y_10 g' p_1 ∧ q32_41 y_10 g' p_1 ∧ q32_42 y_10 g' p_1 ∧ q32_43 y_10 g' p_1 ∧ q32_44 y_10 g' p_1 ∧ q32_45 y_10 g' p_1 ∧ q32_46 y_10 g' p_1 ∧
  q32_47 y_10 g' p_1 ∧ q32_48 y_10 g' p_1 ∧ q32_49 y_10 g' p_1 ∧ q32_50 y_10 g' p_1 ∧ q32_51 y_10 g' p_1 ∧ q32_52 y_10 g' p_1 ∧ q32_53 y_10 g' p_1 ∧ q32_54 y_10 g' p_1 ∧
  q32_55 y_10 g' p_1 ∧ q32_56 y_10 g' p_1 ∧ q32_57 y_10 g' p_1 ∧ q32_58 y_10 g' p_1 ∧ q32_59 y_10 g' p_1 ∧ q32_60 y_10 g' p_1 ∧ q32_61 y_10 g' p_1 ∧ q32_62 y_10 g' p_1 ∧
  q32_63 y_10 g' p_1 ∧ q32_30 y_10 g' p_1 ∧ q32_31 y_10 g' p_1 ∧ q32_32 y_10 g' p_1 ∧ q32_33 y_10 g' p_1 ∧ q32_34 y_10 g' p_1 ∧ q32_40 y_10 g' p_1 ∧ q32_41 y_10 g' p_1 ∧
  q32_42 y_10 g' p_1 ∧ q32_43 y_10 g' p_1 ∧ q32_45 y_10 g' p_1 ∧ q32_46 y_10 g' p_1 ∧ q32_44 y_10 g' p_1 ∧ q32_35 y_10 g' p_1 ∧ q32_36 y_10 g' p_1 ∧ q32_38 y_10 g' p_1 ∧
  q32_37 y_10 g' p_1 ∧ q32_39 y_10 g' p_1 ∧ q32_5 ∧ q32_6 ∧ q32_47 y_10 g' p_1 ∧ q32_48 y_10 g' p_1 ∧ q32_49 y_10 g' p_1 ∧ q32_50 y_10 g' p_1 ∧ q32_51 y_10 g' p_1 ∧
  q32_57 y_10 g' p_1 ∧ q32_58 y_10 g' p_1 ∧ q32_59 y_10 g' p_1 ∧ q32_60 y_10 g' p_1 ∧ q32_62 y_10 g' p_1 ∧ q32_63 y_10 g' p_1 ∧ q32_61 y_10 g' p_1 ∧ q32_52 y_10 g' p_1 ∧
  q32_53 y_10 g' p_1 ∧ q32_55 y_10 g' p_1 ∧ q32_54 y_10 g' p_1 ∧ q32_56 y_10 g' p_1 ∧ q32_5 ∧ q32_6 ∧ q32_64 y_10 g' p_1 ∧ q32_65 y_10 g' p_1 ∧ y_10.now = (roundN g' p_1).now ∧
  y_10.draw = (roundN g' p_1).draw ∧ q32_7 ∧ y_10.u = (roundN g' p_1).u ∧ y_10.t = (roundN g' p_1).t ∧ (q32_88 && true) = true) ∧
  q32_86 y_6 y_1 g n y_9 y_7 y_4 p))) (q32_89 n g y_10 p)) (q32_89 n g y_10 p)) ∧ True) ∧ True) ∧ True) ∧ True) ∧ True) ∧ True) (y_1.a.key = y.a.key ∧ y_1.a.win = y.a.win ∧
  y_1.a.life = y.a.life ∧ y_1.a.rto = y.a.rto ∧ y_1.a.tries = y.a.tries ∧ y_1.a.st = y.a.st ∧ y_1.a.mt = y.a.mt ∧ y_1.a.pt = y.a.pt ∧ y_1.a.ms = y.a.ms ∧
  y_1.a.ps = y.a.ps ∧ y_1.a.ltag = y.a.ltag ∧ y_1.a.lch.t = y.a.lch.t ∧ y_1.a.lch.f = y.a.lch.f ∧ y_1.a.lch.v = y.a.lch.v ∧ y_1.a.set = y.a.set ∧ y_1.a.at_ = y.a.at_ ∧
  y_1.a.left = y.a.left ∧ y_1.b.key = y.b.key ∧ y_1.b.win = y.b.win ∧ y_1.b.life = y.b.life ∧ y_1.b.rto = y.b.rto ∧ y_1.b.tries = y.b.tries ∧ y_1.b.st = y.b.st ∧
  y_1.b.mt = y.b.mt ∧ y_1.b.pt = y.b.pt ∧ y_1.b.ms = y.b.ms ∧ y_1.b.ps = y.b.ps ∧ y_1.b.ltag = y.b.ltag ∧ y_1.b.lch.t = y.b.lch.t ∧ y_1.b.lch.f = y.b.lch.f ∧
  y_1.b.lch.v = y.b.lch.v ∧ y_1.b.set = y.b.set ∧ y_1.b.at_ = y.b.at_ ∧ y_1.b.left = y.b.left ∧ y_1.a.key = y.a.key ∧ y_1.a.win = y.a.win ∧ y_1.a.life = y.a.life ∧
  y_1.a.rto = y.a.rto ∧ y_1.a.tries = y.a.tries ∧ y_1.a.ltag = y.a.ltag ∧ y_1.a.lch.t = y.a.lch.t ∧ y_1.a.lch.f = y.a.lch.f ∧ y_1.a.lch.v = y.a.lch.v ∧ y_1.a.at_ = y.a.at_ ∧
  y_1.a.left = y.a.left ∧ y_1.a.set = y.a.set ∧ y_1.a.st = y.a.st ∧ y_1.a.mt = y.a.mt ∧ y_1.a.ms = y.a.ms ∧ y_1.a.pt = y.a.pt ∧ y_1.a.ps = y.a.ps ∧ q32_5 ∧
  q32_6 ∧ y_1.b.key = y.b.key ∧ y_1.b.win = y.b.win ∧ y_1.b.life = y.b.life ∧ y_1.b.rto = y.b.rto ∧ y_1.b.tries = y.b.tries ∧ y_1.b.ltag = y.b.ltag ∧ y_1.b.lch.t = y.b.lch.t ∧
  y_1.b.lch.f = y.b.lch.f ∧ y_1.b.lch.v = y.b.lch.v ∧ y_1.b.at_ = y.b.at_ ∧ y_1.b.left = y.b.left ∧ y_1.b.set = y.b.set ∧ y_1.b.st = y.b.st ∧ y_1.b.mt = y.b.mt ∧
  y_1.b.ms = y.b.ms ∧ y_1.b.pt = y.b.pt ∧ y_1.b.ps = y.b.ps ∧ q32_5 ∧ q32_6 ∧ (q32_1 y_1 = q32_1 y ∧ ∀ (i : Nat), i < q32_1 y_1 → ∀ (j : Nat), j < (4 : Nat) →
  ltrCell y_1.v i j = ltrCell y.v i j) ∧ (q32_3 y_1 = q32_3 y ∧ ∀ (i : Nat), i < q32_3 y_1 → ∀ (j : Nat), j < (4 : Nat) → ltrCell y_1.w i j = ltrCell y.w i j) ∧
  y_1.now = y.now ∧ y_1.draw = y.draw ∧ q32_7 ∧ y_1.u = y.u ∧ y_1.t = y.t ∧ (true && true && true) = true) := by
  delta q32_0 q32_1 q32_2 q32_3 q32_4 q32_5 q32_6 q32_7 q32_10 q32_11 q32_12 q32_13 q32_14 q32_15 q32_16 q32_17 q32_18 q32_19 q32_20 q32_21 q32_22
    q32_23 q32_24 q32_25 q32_26 q32_27 q32_28 q32_29 q32_30 q32_31 q32_32 q32_33 q32_34 q32_35 q32_36 q32_37 q32_38 q32_39 q32_40 q32_41 q32_42 q32_43
    q32_44 q32_45 q32_46 q32_47 q32_48 q32_49 q32_50 q32_51 q32_52 q32_53 q32_54 q32_55 q32_56 q32_57 q32_58 q32_59 q32_60 q32_61 q32_62 q32_63 q32_64
    q32_65 q32_67 q32_68 q32_69 q32_70 q32_72 q32_73 q32_74 q32_75 q32_76 q32_77 q32_78 q32_79 q32_80 q32_81 q32_82 q32_83 q32_84 q32_85 q32_86 q32_87
    q32_88 q32_89 iO
  simp only [↓sw_iff, ↓Bool.and_eq_true, ↓decide_eq_true_eq, ↓decide_eq_false_iff_not, ltrsOf_ltrs, pr_eta', out_eta, Int.toNat_natCast]
  intro p n hn hp
  have w01 : IntKind.i64.wrap (0 + 1) = 1 := by decide
  simp only [w01]
  repeat' (first
    | (refine (show ((calmF g p).a.key = (calmF n p).a.key) ∧ _ from ?_); rw [show n = g by omega])
    | (intro g hg
       have hgn : g ≤ n := hg
       have hc : okPr (500 + g) (500 + 2 * g) (calmF g p) := okPr.calm hp g (by omega)
       have hcn := hc.now
       have hnow : okNow ((calmF g p).now + 1) := okNow_of (N := 600) (by omega) (by omega)
       have w1 : IntKind.i64.wrap ((calmF g p).now + 1) = (calmF g p).now + 1 := wrap_i64_id (by omega) (by omega)
       have hgw : IntKind.i64.wrap ((g : Int) + 1) = ((g + 1 : Nat) : Int) := wrap_succ (n := 30) (by omega) (by omega)
       have hT : okPr (501 + g) (501 + 2 * g) (tickF { calmF g p with now := (calmF g p).now + 1 } 0) := (hc.tick.tickS (by omega) 0).mono (by omega) (by omega)
       have m1 := tick_mid (p := (calmF g p)) (hc.mono (by omega) (by omega)) 0
       have m2 := tick_mid2 (q := (tickF { calmF g p with now := (calmF g p).now + 1 } 0)) (hT.mono (by omega) (by omega)) 1
       have hd : okP 1000 (roundN 0 (dawnF (calmF g p))) := (hc.dawn (by omega)).mono (by omega) (by omega)
       simp only [w1, hgw])
    | (intro j hj
       obtain ⟨j1, j2, j3⟩ := hj
       have hjn := j3.len
       unfold lenP at hjn
       have wl : IntKind.i64.wrap (((roundN j (dawnF (calmF g p))).v.length : Int) + ((roundN j (dawnF (calmF g p))).w.length : Int)) = ((roundN j (dawnF (calmF g p))).v.length : Int) + ((roundN j (dawnF (calmF g p))).w.length : Int) := wrap_i64_id (by omega) (by omega)
       have hjw : IntKind.i64.wrap ((j : Int) + 1) = ((j + 1 : Nat) : Int) := wrap_succ (n := 400) (by omega) (by omega)
       simp only [wl, hjw])
    | (refine (show ∃ (q : PrR) (t : Int) (k : Nat), [_, iO .i64 0, _] = _ ∧ _ from ?_); exact del_pre j3 (by omega) (.inl rfl) (by assumption))
    | (refine (show ∃ (q : PrR) (t : Int) (k : Nat), [_, iO .i64 1, _] = _ ∧ _ from ?_)
       have hv0 : (0 : Int) < ((roundN j (dawnF (calmF g p))).v.length : Int) := by assumption
       exact del_pre (okPr.del j3 (by omega) 0 (show 0 < (roundN j (dawnF (calmF g p))).v.length by omega)) (by omega) (.inr rfl) (by assumption))
    | (refine (show ∃ (q : PrR) (t : Int) (k : Nat), [_, iO .i64 1, _] = _ ∧ _ from ?_); exact del_pre j3 (by omega) (.inr rfl) (by assumption))
    | (refine ⟨j + 1, ⟨by omega, loop_step (by omega) (by unfold lenP; omega) j2, okPr.round j3 (by omega)⟩, by omega, ?_⟩
       first
         | rw [round_is (pop_0 (by assumption)) (pop_1 (by assumption))]
         | rw [round_is (pop_0 (by assumption)) (pop_1' (by assumption))]
         | rw [round_is (pop_0' (by assumption)) (pop_1 (by assumption))]
         | rw [round_is (pop_0' (by assumption)) (pop_1' (by assumption))])
    | (refine ⟨g + 1, by omega, by omega, ?_⟩
       rw [show calmF (g + 1) p = (roundN j (dawnF (calmF g p))) from loop_end j1 (by unfold lenP; omega) j2])
    | exact ⟨(calmF g p).a, (calmF g p).now + 1, rfl, hc.a, hnow⟩
    | exact ⟨(tickF { calmF g p with now := (calmF g p).now + 1 } 0).b, (calmF g p).now + 1, rfl, hc.b, hnow⟩
    | exact said_pre (putS { calmF g p with now := (calmF g p).now + 1 } 0 (tickA (calmF g p).a ((calmF g p).now + 1)).1) (.inl rfl) m1
    | exact said_pre (putS (tickF { calmF g p with now := (calmF g p).now + 1 } 0) 1 (tickA (tickF { calmF g p with now := (calmF g p).now + 1 } 0).b ((calmF g p).now + 1)).1) (.inr rfl) m2
    | (refine ⟨(dawnF (calmF g p)), 0, ⟨Nat.zero_le _, rfl, hd⟩, rfl, ?_⟩)
    | (refine ⟨0, Nat.zero_le _, rfl, ?_⟩)
    | exact rfl | exact trivial | omega | (intro i hi j hj; exact rfl) | apply And.intro | intro _)
set_option maxRecDepth 100000 in
theorem ok32 : FnIs Try.prog 32 calmC := by
  refine fnIs (C := (ctrs l10)) (by kernel_rfl) l10_ok Try.func32 (code := code32) (by kernel_rfl) (by kernel_rfl) ?_
  rintro a ⟨p, n, rfl, hn, hp⟩
  exact ⟨anns [(1, dayA p n), (9, loopA)] [9] [(5, 3), (12, 3)], kcast (vc32 p n hn hp) (by kernel_rfl)⟩

end Go.ZR
