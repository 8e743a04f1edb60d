/- Part 18 of what the closing text rests on. -/
import Derived.Test.YtlbfenfepmmihaaI17
import Derived.Test.YtlbfenfepmmihaaRows
namespace Go.ZR
open Go.Proofs
open Go.Z Go.ZM Go.RowKit
set_option maxRecDepth 100000
theorem l4_ok : COk Try.prog (ctrs l4) := cok_cons ok71 (cok_cons ok72 cok_nil)
theorem pr_eta (p : PrR) : PrR.mk p.a p.b p.v p.w p.now p.draw p.u p.t = p := rfl
theorem ltr_app (v l : List LtrR) (i j : Nat) : (bif i.blt v.length then ltrCell v i j else ltrCell l (i - v.length) j) = ltrCell (v ++ l) i j := by
  have e : (v ++ l).getD i noLtr = bif i.blt v.length then v.getD i noLtr else l.getD (i - v.length) noLtr := by
    cases h : i.blt v.length with
    | true =>
      have h : i < v.length := Nat.le_of_ble_eq_true h
      simp [List.getD, List.getElem?_append_left h]
    | false =>
      have h : ¬ i < v.length := by
        intro g
        have : i.blt v.length = true := Nat.ble_eq_true_of_le g
        rw [this] at h; cases h
      simp [List.getD, List.getElem?_append_right (Nat.le_of_not_lt h)]
  unfold ltrCell
  rw [e]
  cases i.blt v.length <;> rfl
theorem bytes150 : Try.prog.types[(150 : Nat)].bytes = 40 := by kernel_rfl
theorem said_room {n : Nat} {v l : List LtrR} (h : v.length ≤ n) (hn : n ≤ 2000) (g : l.length ≤ 1) : (v.length + l.length) * Try.prog.types[(150 : Nat)].bytes ≤ 140737488355328 := by
  rw [bytes150]
  omega
noncomputable def code31a : Code := match Try.f31.body with | some c => c | none => .skip
@[reducible] noncomputable def q31a_0 (x0 : PrR) : Nat := x0.w.length
@[reducible] noncomputable def q31a_1 (x0 : PrR) : List LtrR := ltrsOf (D.recs 4 (q31a_0 x0) (ltrCell x0.w))
@[reducible] noncomputable def q31a_2 (x0 : PrR) : Nat := x0.v.length
@[reducible] noncomputable def q31a_3 (x0 : PrR) : List LtrR := ltrsOf (D.recs 4 (q31a_2 x0) (ltrCell x0.v))
@[reducible] noncomputable def q31a_4 (x0 : List LtrR) : List LtrR := ltrsOf (D.recs 4 x0.length (ltrCell x0))
@[reducible] noncomputable def q31a_5 (x0 : PrR) (x1 : List LtrR) (x2 : List LtrR) : PrR := PrR.mk x0.a x0.b x1 x2 x0.now x0.draw x0.u x0.t
@[reducible] noncomputable def q31a_6 (x0 : List LtrR) : O := O.d (D.recs 4 x0.length (ltrCell x0))
@[reducible] noncomputable def q31a_7 (x0 : OutR) : O := O.agg [O.d (D.recs 4 x0.pk.length (ltrCell x0.pk)), O.d (D.ints IntKind.i64 x0.ev)]
@[reducible] def q31a_8 (x0 : List LtrR) : Prop := ∃ (o : OutR), [O.agg [q31a_6 x0, O.d (D.ints IntKind.i64 [])], O.agg [q31a_6 x0, O.d (D.ints IntKind.i64 [])]] = [q31a_7 o, q31a_7 o] ∧
  okO o
@[reducible] noncomputable def q31a_9 : Int := (↑(2 : Nat) : Int)
@[reducible] def q31a_10 : Prop := (0 : Int) ≤ (0 : Int) ∧ (0 : Int) < q31a_9
@[reducible] noncomputable def q31a_11 : List O := [O.own 142 (D.recs 4 (0 : Nat) (ltrCell noOut.pk)), O.own 3 (D.ints IntKind.i64 noOut.ev)]
@[reducible] noncomputable def q31a_12 (x0 : AsR) : List O := [O.ptr 148 (iO .u64 x0.key :: iO .u32 x0.win :: iO .i64 x0.life :: iO .i64 x0.rto :: iO .i64 x0.tries :: iO .u32 x0.ltag :: iO .u8 x0.lch.t :: iO .u8 x0.lch.f :: O.d (D.ints IntKind.u8 x0.lch.v) :: iO .i64 x0.at_ :: iO .i64 x0.left :: O.d (D.v (Value.bool x0.set)) :: iO .i64 x0.st :: iO .u32 x0.mt :: iO .u32 x0.ms :: iO .u32 x0.pt :: iO .u32 x0.ps :: q31a_11), O.ptr 152 [iO .u64 x0.key, iO .u32 x0.win, iO .i64 x0.life, iO .i64 x0.rto, iO .i64 x0.tries, iO .i64 x0.st, iO .u32 x0.mt, iO .u32 x0.pt, iO .u32 x0.ms, iO .u32 x0.ps, iO .u32 x0.ltag, iO .u8 x0.lch.t, iO .u8 x0.lch.f, O.d (D.ints IntKind.u8 x0.lch.v), O.d (D.v (Value.bool x0.set)), iO .i64 x0.at_, iO .i64 x0.left, O.any, O.any]]
@[reducible] def q31a_13 (x0 : PrR) : Prop := ∃ (s : AsR), [O.ptr 148 (iO .u64 x0.a.key :: iO .u32 x0.a.win :: iO .i64 x0.a.life :: iO .i64 x0.a.rto :: iO .i64 x0.a.tries :: iO .u32 x0.a.ltag :: iO .u8 x0.a.lch.t :: iO .u8 x0.a.lch.f :: O.d (D.ints IntKind.u8 x0.a.lch.v) :: iO .i64 x0.a.at_ :: iO .i64 x0.a.left :: O.d (D.v (Value.bool x0.a.set)) :: iO .i64 x0.a.st :: iO .u32 x0.a.mt :: iO .u32 x0.a.ms :: iO .u32 x0.a.pt :: iO .u32 x0.a.ps :: q31a_11), O.ptr 152 [iO .u64 x0.a.key, iO .u32 x0.a.win, iO .i64 x0.a.life, iO .i64 x0.a.rto, iO .i64 x0.a.tries, iO .i64 x0.a.st, iO .u32 x0.a.mt, iO .u32 x0.a.pt, iO .u32 x0.a.ms, iO .u32 x0.a.ps, iO .u32 x0.a.ltag, iO .u8 x0.a.lch.t, iO .u8 x0.a.lch.f, O.d (D.ints IntKind.u8 x0.a.lch.v), O.d (D.v (Value.bool x0.a.set)), iO .i64 x0.a.at_, iO .i64 x0.a.left, O.any, O.any]] = q31a_12 s
@[reducible] def q31a_14 : Prop := (0 : Int) ≤ IntKind.i64.wrap ((1 : Int) - (0 : Int)) ∧ IntKind.i64.wrap ((1 : Int) - (0 : Int)) < q31a_9
@[reducible] noncomputable def q31a_16 : Nat := Try.prog.types[150].bytes
@[reducible] def q31a_17 (x0 : PrR) (x1 : PrR) : Prop := x0.a.key = x1.a.key
@[reducible] def q31a_18 (x0 : PrR) (x1 : PrR) : Prop := x0.a.win = x1.a.win
@[reducible] def q31a_19 (x0 : PrR) (x1 : PrR) : Prop := x0.a.life = x1.a.life
@[reducible] def q31a_20 (x0 : PrR) (x1 : PrR) : Prop := x0.a.rto = x1.a.rto
@[reducible] def q31a_21 (x0 : PrR) (x1 : PrR) : Prop := x0.a.tries = x1.a.tries
@[reducible] def q31a_22 (x0 : PrR) (x1 : PrR) : Prop := x0.a.st = x1.a.st
@[reducible] def q31a_23 (x0 : PrR) (x1 : PrR) : Prop := x0.a.mt = x1.a.mt
@[reducible] def q31a_24 (x0 : PrR) (x1 : PrR) : Prop := x0.a.pt = x1.a.pt
@[reducible] def q31a_25 (x0 : PrR) (x1 : PrR) : Prop := x0.a.ms = x1.a.ms
@[reducible] def q31a_26 (x0 : PrR) (x1 : PrR) : Prop := x0.a.ps = x1.a.ps
@[reducible] def q31a_27 (x0 : PrR) (x1 : PrR) : Prop := x0.a.ltag = x1.a.ltag
@[reducible] def q31a_28 (x0 : PrR) (x1 : PrR) : Prop := x0.a.lch.t = x1.a.lch.t
@[reducible] def q31a_29 (x0 : PrR) (x1 : PrR) : Prop := x0.a.lch.f = x1.a.lch.f
@[reducible] def q31a_30 (x0 : PrR) (x1 : PrR) : Prop := x0.a.lch.v = x1.a.lch.v
@[reducible] def q31a_31 (x0 : PrR) (x1 : PrR) : Prop := x0.a.set = x1.a.set
@[reducible] def q31a_32 (x0 : PrR) (x1 : PrR) : Prop := x0.a.at_ = x1.a.at_
@[reducible] def q31a_33 (x0 : PrR) (x1 : PrR) : Prop := x0.a.left = x1.a.left
@[reducible] def q31a_34 (x0 : PrR) (x1 : PrR) : Prop := x0.b.key = x1.b.key
@[reducible] def q31a_35 (x0 : PrR) (x1 : PrR) : Prop := x0.b.win = x1.b.win
@[reducible] def q31a_36 (x0 : PrR) (x1 : PrR) : Prop := x0.b.life = x1.b.life
@[reducible] def q31a_37 (x0 : PrR) (x1 : PrR) : Prop := x0.b.rto = x1.b.rto
@[reducible] def q31a_38 (x0 : PrR) (x1 : PrR) : Prop := x0.b.tries = x1.b.tries
@[reducible] def q31a_39 (x0 : PrR) (x1 : PrR) : Prop := x0.b.st = x1.b.st
@[reducible] def q31a_40 (x0 : PrR) (x1 : PrR) : Prop := x0.b.mt = x1.b.mt
@[reducible] def q31a_41 (x0 : PrR) (x1 : PrR) : Prop := x0.b.pt = x1.b.pt
@[reducible] def q31a_42 (x0 : PrR) (x1 : PrR) : Prop := x0.b.ms = x1.b.ms
@[reducible] def q31a_43 (x0 : PrR) (x1 : PrR) : Prop := x0.b.ps = x1.b.ps
@[reducible] def q31a_44 (x0 : PrR) (x1 : PrR) : Prop := x0.b.ltag = x1.b.ltag
@[reducible] def q31a_45 (x0 : PrR) (x1 : PrR) : Prop := x0.b.lch.t = x1.b.lch.t
@[reducible] def q31a_46 (x0 : PrR) (x1 : PrR) : Prop := x0.b.lch.f = x1.b.lch.f
@[reducible] def q31a_47 (x0 : PrR) (x1 : PrR) : Prop := x0.b.lch.v = x1.b.lch.v
@[reducible] def q31a_48 (x0 : PrR) (x1 : PrR) : Prop := x0.b.set = x1.b.set
@[reducible] def q31a_49 (x0 : PrR) (x1 : PrR) : Prop := x0.b.at_ = x1.b.at_
@[reducible] def q31a_50 (x0 : PrR) (x1 : PrR) : Prop := x0.b.left = x1.b.left
@[reducible] def q31a_51 : Prop := (0 : Nat) = (0 : Nat) ∧ ∀ (i : Nat), i < (0 : Nat) → ∀ (j : Nat), j < (4 : Nat) → ltrCell noOut.pk i j = ltrCell noOut.pk i j
@[reducible] def q31a_52 : Prop := noOut.ev = noOut.ev
@[reducible] def q31a_53 (x0 : PrR) (x1 : PrR) : Prop := q31a_2 x0 = q31a_2 x1 ∧ ∀ (i : Nat), i < q31a_2 x0 → ∀ (j : Nat), j < (4 : Nat) → ltrCell x0.v i j = ltrCell x1.v i j
@[reducible] def q31a_54 (x0 : PrR) (x1 : List LtrR) (x2 : PrR) : Prop := q31a_0 x0 + x1.length = q31a_0 x2 ∧ ∀ (i : Nat), i < q31a_0 x0 + x1.length → ∀ (j : Nat), j < (4 : Nat) →
  (bif i.blt (q31a_0 x0) then ltrCell x0.w i j else ltrCell x1 (i - q31a_0 x0) j) = ltrCell x2.w i j
@[reducible] def q31a_55 : Prop := false = false
@[reducible] def q31a_56 (x0 : PrR) (x1 : PrR) : Prop := x0.t = x1.t ∧ (true && true && true) = true
@[reducible] def q31a_57 (x0 : PrR) (x1 : List LtrR) (x2 : PrR) : Prop := q31a_10 ∧ q31a_10 ∧ (q31a_13 x0 ∧ (True ∧ True ∧ q31a_14 ∧ (True ∧ (q31a_0 x0 + x1.length) * q31a_16 ≤ (140737488355328 : Nat) ∧
  q31a_14 ∧ (True ∧ q31a_17 x0 x2 ∧ q31a_18 x0 x2 ∧ q31a_19 x0 x2 ∧ q31a_20 x0 x2 ∧ q31a_21 x0 x2 ∧ q31a_22 x0 x2 ∧ q31a_23 x0 x2 ∧ q31a_24 x0 x2 ∧ q31a_25 x0 x2 ∧
  q31a_26 x0 x2 ∧ q31a_27 x0 x2 ∧ q31a_28 x0 x2 ∧ q31a_29 x0 x2 ∧ q31a_30 x0 x2 ∧ q31a_31 x0 x2 ∧ q31a_32 x0 x2 ∧ q31a_33 x0 x2 ∧ q31a_34 x0 x2 ∧ q31a_35 x0 x2 ∧
  q31a_36 x0 x2 ∧ q31a_37 x0 x2 ∧ q31a_38 x0 x2 ∧ q31a_39 x0 x2 ∧ q31a_40 x0 x2 ∧ q31a_41 x0 x2 ∧ q31a_42 x0 x2 ∧ q31a_43 x0 x2 ∧ q31a_44 x0 x2 ∧ q31a_45 x0 x2 ∧
  q31a_46 x0 x2 ∧ q31a_47 x0 x2 ∧ q31a_48 x0 x2 ∧ q31a_49 x0 x2 ∧ q31a_50 x0 x2 ∧ q31a_17 x0 x2 ∧ q31a_18 x0 x2 ∧ q31a_19 x0 x2 ∧ q31a_20 x0 x2 ∧ q31a_21 x0 x2 ∧
  q31a_27 x0 x2 ∧ q31a_28 x0 x2 ∧ q31a_29 x0 x2 ∧ q31a_30 x0 x2 ∧ q31a_32 x0 x2 ∧ q31a_33 x0 x2 ∧ q31a_31 x0 x2 ∧ q31a_22 x0 x2 ∧ q31a_23 x0 x2 ∧ q31a_25 x0 x2 ∧
  q31a_24 x0 x2 ∧ q31a_26 x0 x2 ∧ q31a_51 ∧ q31a_52 ∧ q31a_34 x0 x2 ∧ q31a_35 x0 x2 ∧ q31a_36 x0 x2 ∧ q31a_37 x0 x2 ∧ q31a_38 x0 x2 ∧ q31a_44 x0 x2 ∧ q31a_45 x0 x2 ∧
  q31a_46 x0 x2 ∧ q31a_47 x0 x2 ∧ q31a_49 x0 x2 ∧ q31a_50 x0 x2 ∧ q31a_48 x0 x2 ∧ q31a_39 x0 x2 ∧ q31a_40 x0 x2 ∧ q31a_42 x0 x2 ∧ q31a_41 x0 x2 ∧ q31a_43 x0 x2 ∧
  q31a_51 ∧ q31a_52 ∧ q31a_53 x0 x2 ∧ q31a_54 x0 x1 x2 ∧ x0.now = x2.now ∧ x0.draw = x2.draw ∧ q31a_55 ∧ x0.u = x2.u ∧ q31a_56 x0 x2) ∧ True) ∧ True) ∧ True) ∧
  True
@[reducible] def q31a_58 (x0 : List LtrR) : Prop := ∃ (o : OutR), [O.agg [q31a_6 x0, O.d (D.ints IntKind.i64 [(1 : Int)])], O.agg [q31a_6 x0, O.d (D.ints IntKind.i64 [(1 : Int)])]] = [q31a_7 o, q31a_7 o] ∧
  okO o
@[reducible] def q31a_59 : Prop := (0 : Int) ≤ (0 : Int) ∧ (0 : Int) < (↑(1 : Nat) : Int)
@[reducible] def q31a_60 (x0 : PrR) (x1 : PrR) (x2 : List LtrR) : Prop := (((((q31a_10 ∧ (True ∧ True ∧ q31a_17 x0 x1 ∧ q31a_18 x0 x1 ∧ q31a_19 x0 x1 ∧
  q31a_20 x0 x1 ∧ q31a_21 x0 x1 ∧ q31a_22 x0 x1 ∧ q31a_23 x0 x1 ∧ q31a_24 x0 x1 ∧ q31a_25 x0 x1 ∧ q31a_26 x0 x1 ∧ q31a_27 x0 x1 ∧ q31a_28 x0 x1 ∧ q31a_29 x0 x1 ∧
  q31a_30 x0 x1 ∧ q31a_31 x0 x1 ∧ q31a_32 x0 x1 ∧ q31a_33 x0 x1 ∧ q31a_34 x0 x1 ∧ q31a_35 x0 x1 ∧ q31a_36 x0 x1 ∧ q31a_37 x0 x1 ∧ q31a_38 x0 x1 ∧ q31a_39 x0 x1 ∧
  q31a_40 x0 x1 ∧ q31a_41 x0 x1 ∧ q31a_42 x0 x1 ∧ q31a_43 x0 x1 ∧ q31a_44 x0 x1 ∧ q31a_45 x0 x1 ∧ q31a_46 x0 x1 ∧ q31a_47 x0 x1 ∧ q31a_48 x0 x1 ∧ q31a_49 x0 x1 ∧
  q31a_50 x0 x1 ∧ q31a_17 x0 x1 ∧ q31a_18 x0 x1 ∧ q31a_19 x0 x1 ∧ q31a_20 x0 x1 ∧ q31a_21 x0 x1 ∧ q31a_27 x0 x1 ∧ q31a_28 x0 x1 ∧ q31a_29 x0 x1 ∧ q31a_30 x0 x1 ∧
  q31a_32 x0 x1 ∧ q31a_33 x0 x1 ∧ q31a_31 x0 x1 ∧ q31a_22 x0 x1 ∧ q31a_23 x0 x1 ∧ q31a_25 x0 x1 ∧ q31a_24 x0 x1 ∧ q31a_26 x0 x1 ∧ q31a_51 ∧ q31a_52 ∧ q31a_34 x0 x1 ∧
  q31a_35 x0 x1 ∧ q31a_36 x0 x1 ∧ q31a_37 x0 x1 ∧ q31a_38 x0 x1 ∧ q31a_44 x0 x1 ∧ q31a_45 x0 x1 ∧ q31a_46 x0 x1 ∧ q31a_47 x0 x1 ∧ q31a_49 x0 x1 ∧ q31a_50 x0 x1 ∧
  q31a_48 x0 x1 ∧ q31a_39 x0 x1 ∧ q31a_40 x0 x1 ∧ q31a_42 x0 x1 ∧ q31a_41 x0 x1 ∧ q31a_43 x0 x1 ∧ q31a_51 ∧ q31a_52 ∧ q31a_53 x0 x1 ∧ q31a_54 x0 x2 x1 ∧ x0.now = x1.now ∧
  x0.draw = x1.draw ∧ q31a_55 ∧ true = x1.u ∧ q31a_56 x0 x1) ∧ True) ∧ True) ∧ True) ∧ True) ∧ True) ∧ True
@[reducible] def q31a_61 (x0 : PrR) (x1 : List LtrR) (x2 : PrR) : Prop := q31a_10 ∧ q31a_10 ∧ (q31a_13 x0 ∧ (True ∧ True ∧ q31a_14 ∧ (True ∧ (q31a_0 x0 + x1.length) * q31a_16 ≤ (140737488355328 : Nat) ∧
  q31a_14 ∧ (True ∧ q31a_59 ∧ True ∧ (q31a_60 x0 x2 x1 ∧ q31a_60 x0 x2 x1 ∧ True) ∧ (q31a_60 x0 x2 x1 ∧ True) ∧ True) ∧ True) ∧ True) ∧ True) ∧ True
@[reducible] def q31a_62 (x0 : List LtrR) : Prop := ∃ (o : OutR), [O.agg [q31a_6 x0, O.d (D.ints IntKind.i64 [(2 : Int)])], O.agg [q31a_6 x0, O.d (D.ints IntKind.i64 [(2 : Int)])]] = [q31a_7 o, q31a_7 o] ∧
  okO o
@[reducible] noncomputable def q31a_63 : Bool := decide ([(2 : Int)].getD (Int.toNat (0 : Int)) (0 : Int) = (2 : Int))
@[reducible] def q31a_64 (x0 : PrR) (x1 : PrR) (x2 : List LtrR) : Prop := q31a_59 ∧ True ∧ (q31a_10 ∧ (True ∧ True ∧ q31a_17 x0 x1 ∧ q31a_18 x0 x1 ∧ q31a_19 x0 x1 ∧
  q31a_20 x0 x1 ∧ q31a_21 x0 x1 ∧ q31a_22 x0 x1 ∧ q31a_23 x0 x1 ∧ q31a_24 x0 x1 ∧ q31a_25 x0 x1 ∧ q31a_26 x0 x1 ∧ q31a_27 x0 x1 ∧ q31a_28 x0 x1 ∧ q31a_29 x0 x1 ∧
  q31a_30 x0 x1 ∧ q31a_31 x0 x1 ∧ q31a_32 x0 x1 ∧ q31a_33 x0 x1 ∧ q31a_34 x0 x1 ∧ q31a_35 x0 x1 ∧ q31a_36 x0 x1 ∧ q31a_37 x0 x1 ∧ q31a_38 x0 x1 ∧ q31a_39 x0 x1 ∧
  q31a_40 x0 x1 ∧ q31a_41 x0 x1 ∧ q31a_42 x0 x1 ∧ q31a_43 x0 x1 ∧ q31a_44 x0 x1 ∧ q31a_45 x0 x1 ∧ q31a_46 x0 x1 ∧ q31a_47 x0 x1 ∧ q31a_48 x0 x1 ∧ q31a_49 x0 x1 ∧
  q31a_50 x0 x1 ∧ q31a_17 x0 x1 ∧ q31a_18 x0 x1 ∧ q31a_19 x0 x1 ∧ q31a_20 x0 x1 ∧ q31a_21 x0 x1 ∧ q31a_27 x0 x1 ∧ q31a_28 x0 x1 ∧ q31a_29 x0 x1 ∧ q31a_30 x0 x1 ∧
  q31a_32 x0 x1 ∧ q31a_33 x0 x1 ∧ q31a_31 x0 x1 ∧ q31a_22 x0 x1 ∧ q31a_23 x0 x1 ∧ q31a_25 x0 x1 ∧ q31a_24 x0 x1 ∧ q31a_26 x0 x1 ∧ q31a_51 ∧ q31a_52 ∧ q31a_34 x0 x1 ∧
  q31a_35 x0 x1 ∧ q31a_36 x0 x1 ∧ q31a_37 x0 x1 ∧ q31a_38 x0 x1 ∧ q31a_44 x0 x1 ∧ q31a_45 x0 x1 ∧ q31a_46 x0 x1 ∧ q31a_47 x0 x1 ∧ q31a_49 x0 x1 ∧ q31a_50 x0 x1 ∧
  q31a_48 x0 x1 ∧ q31a_39 x0 x1 ∧ q31a_40 x0 x1 ∧ q31a_42 x0 x1 ∧ q31a_41 x0 x1 ∧ q31a_43 x0 x1 ∧ q31a_51 ∧ q31a_52 ∧ q31a_53 x0 x1 ∧ q31a_54 x0 x2 x1 ∧ x0.now = x1.now ∧
  x0.draw = x1.draw ∧ q31a_55 ∧ q31a_63 = x1.u ∧ q31a_56 x0 x1) ∧ True) ∧ True
@[reducible] def q31a_65 (x0 : PrR) (x1 : List LtrR) (x2 : PrR) : Prop := q31a_10 ∧ q31a_10 ∧ (q31a_13 x0 ∧ (True ∧ True ∧ q31a_14 ∧ (True ∧ (q31a_0 x0 + x1.length) * q31a_16 ≤ (140737488355328 : Nat) ∧
  q31a_14 ∧ (True ∧ q31a_59 ∧ True ∧ q31a_64 x0 x2 x1 ∧ q31a_64 x0 x2 x1 ∧ True) ∧ True) ∧ True) ∧ True) ∧ True
@[reducible] def q31a_66 (x0 : List LtrR) : Prop := ∃ (o : OutR), [O.agg [q31a_6 x0, O.d (D.ints IntKind.i64 [(3 : Int)])], O.agg [q31a_6 x0, O.d (D.ints IntKind.i64 [(3 : Int)])]] = [q31a_7 o, q31a_7 o] ∧
  okO o
@[reducible] noncomputable def q31a_67 : Bool := decide ([(3 : Int)].getD (Int.toNat (0 : Int)) (0 : Int) = (2 : Int))
@[reducible] def q31a_68 (x0 : PrR) (x1 : PrR) (x2 : List LtrR) : Prop := q31a_59 ∧ True ∧ (q31a_10 ∧ (True ∧ True ∧ q31a_17 x0 x1 ∧ q31a_18 x0 x1 ∧ q31a_19 x0 x1 ∧
  q31a_20 x0 x1 ∧ q31a_21 x0 x1 ∧ q31a_22 x0 x1 ∧ q31a_23 x0 x1 ∧ q31a_24 x0 x1 ∧ q31a_25 x0 x1 ∧ q31a_26 x0 x1 ∧ q31a_27 x0 x1 ∧ q31a_28 x0 x1 ∧ q31a_29 x0 x1 ∧
  q31a_30 x0 x1 ∧ q31a_31 x0 x1 ∧ q31a_32 x0 x1 ∧ q31a_33 x0 x1 ∧ q31a_34 x0 x1 ∧ q31a_35 x0 x1 ∧ q31a_36 x0 x1 ∧ q31a_37 x0 x1 ∧ q31a_38 x0 x1 ∧ q31a_39 x0 x1 ∧
  q31a_40 x0 x1 ∧ q31a_41 x0 x1 ∧ q31a_42 x0 x1 ∧ q31a_43 x0 x1 ∧ q31a_44 x0 x1 ∧ q31a_45 x0 x1 ∧ q31a_46 x0 x1 ∧ q31a_47 x0 x1 ∧ q31a_48 x0 x1 ∧ q31a_49 x0 x1 ∧
  q31a_50 x0 x1 ∧ q31a_17 x0 x1 ∧ q31a_18 x0 x1 ∧ q31a_19 x0 x1 ∧ q31a_20 x0 x1 ∧ q31a_21 x0 x1 ∧ q31a_27 x0 x1 ∧ q31a_28 x0 x1 ∧ q31a_29 x0 x1 ∧ q31a_30 x0 x1 ∧
  q31a_32 x0 x1 ∧ q31a_33 x0 x1 ∧ q31a_31 x0 x1 ∧ q31a_22 x0 x1 ∧ q31a_23 x0 x1 ∧ q31a_25 x0 x1 ∧ q31a_24 x0 x1 ∧ q31a_26 x0 x1 ∧ q31a_51 ∧ q31a_52 ∧ q31a_34 x0 x1 ∧
  q31a_35 x0 x1 ∧ q31a_36 x0 x1 ∧ q31a_37 x0 x1 ∧ q31a_38 x0 x1 ∧ q31a_44 x0 x1 ∧ q31a_45 x0 x1 ∧ q31a_46 x0 x1 ∧ q31a_47 x0 x1 ∧ q31a_49 x0 x1 ∧ q31a_50 x0 x1 ∧
  q31a_48 x0 x1 ∧ q31a_39 x0 x1 ∧ q31a_40 x0 x1 ∧ q31a_42 x0 x1 ∧ q31a_41 x0 x1 ∧ q31a_43 x0 x1 ∧ q31a_51 ∧ q31a_52 ∧ q31a_53 x0 x1 ∧ q31a_54 x0 x2 x1 ∧ x0.now = x1.now ∧
  x0.draw = x1.draw ∧ q31a_55 ∧ q31a_67 = x1.u ∧ q31a_56 x0 x1) ∧ True) ∧ True
@[reducible] def q31a_69 (x0 : PrR) (x1 : List LtrR) (x2 : PrR) : Prop := q31a_10 ∧ q31a_10 ∧ (q31a_13 x0 ∧ (True ∧ True ∧ q31a_14 ∧ (True ∧ (q31a_0 x0 + x1.length) * q31a_16 ≤ (140737488355328 : Nat) ∧
  q31a_14 ∧ (True ∧ q31a_59 ∧ True ∧ q31a_68 x0 x2 x1 ∧ q31a_68 x0 x2 x1 ∧ True) ∧ True) ∧ True) ∧ True) ∧ True
@[reducible] def q31a_70 (x0 : List LtrR) : Prop := ∃ (o : OutR), [O.agg [q31a_6 x0, O.d (D.ints IntKind.i64 [(4 : Int)])], O.agg [q31a_6 x0, O.d (D.ints IntKind.i64 [(4 : Int)])]] = [q31a_7 o, q31a_7 o] ∧
  okO o
@[reducible] noncomputable def q31a_71 : Bool := decide ([(4 : Int)].getD (Int.toNat (0 : Int)) (0 : Int) = (2 : Int))
@[reducible] def q31a_72 (x0 : PrR) (x1 : PrR) (x2 : List LtrR) : Prop := q31a_59 ∧ True ∧ (q31a_10 ∧ (True ∧ True ∧ q31a_17 x0 x1 ∧ q31a_18 x0 x1 ∧ q31a_19 x0 x1 ∧
  q31a_20 x0 x1 ∧ q31a_21 x0 x1 ∧ q31a_22 x0 x1 ∧ q31a_23 x0 x1 ∧ q31a_24 x0 x1 ∧ q31a_25 x0 x1 ∧ q31a_26 x0 x1 ∧ q31a_27 x0 x1 ∧ q31a_28 x0 x1 ∧ q31a_29 x0 x1 ∧
  q31a_30 x0 x1 ∧ q31a_31 x0 x1 ∧ q31a_32 x0 x1 ∧ q31a_33 x0 x1 ∧ q31a_34 x0 x1 ∧ q31a_35 x0 x1 ∧ q31a_36 x0 x1 ∧ q31a_37 x0 x1 ∧ q31a_38 x0 x1 ∧ q31a_39 x0 x1 ∧
  q31a_40 x0 x1 ∧ q31a_41 x0 x1 ∧ q31a_42 x0 x1 ∧ q31a_43 x0 x1 ∧ q31a_44 x0 x1 ∧ q31a_45 x0 x1 ∧ q31a_46 x0 x1 ∧ q31a_47 x0 x1 ∧ q31a_48 x0 x1 ∧ q31a_49 x0 x1 ∧
  q31a_50 x0 x1 ∧ q31a_17 x0 x1 ∧ q31a_18 x0 x1 ∧ q31a_19 x0 x1 ∧ q31a_20 x0 x1 ∧ q31a_21 x0 x1 ∧ q31a_27 x0 x1 ∧ q31a_28 x0 x1 ∧ q31a_29 x0 x1 ∧ q31a_30 x0 x1 ∧
  q31a_32 x0 x1 ∧ q31a_33 x0 x1 ∧ q31a_31 x0 x1 ∧ q31a_22 x0 x1 ∧ q31a_23 x0 x1 ∧ q31a_25 x0 x1 ∧ q31a_24 x0 x1 ∧ q31a_26 x0 x1 ∧ q31a_51 ∧ q31a_52 ∧ q31a_34 x0 x1 ∧
  q31a_35 x0 x1 ∧ q31a_36 x0 x1 ∧ q31a_37 x0 x1 ∧ q31a_38 x0 x1 ∧ q31a_44 x0 x1 ∧ q31a_45 x0 x1 ∧ q31a_46 x0 x1 ∧ q31a_47 x0 x1 ∧ q31a_49 x0 x1 ∧ q31a_50 x0 x1 ∧
  q31a_48 x0 x1 ∧ q31a_39 x0 x1 ∧ q31a_40 x0 x1 ∧ q31a_42 x0 x1 ∧ q31a_41 x0 x1 ∧ q31a_43 x0 x1 ∧ q31a_51 ∧ q31a_52 ∧ q31a_53 x0 x1 ∧ q31a_54 x0 x2 x1 ∧ x0.now = x1.now ∧
  x0.draw = x1.draw ∧ q31a_55 ∧ q31a_71 = x1.u ∧ q31a_56 x0 x1) ∧ True) ∧ True
@[reducible] def q31a_73 (x0 : PrR) (x1 : List LtrR) (x2 : PrR) : Prop := q31a_10 ∧ q31a_10 ∧ (q31a_13 x0 ∧ (True ∧ True ∧ q31a_14 ∧ (True ∧ (q31a_0 x0 + x1.length) * q31a_16 ≤ (140737488355328 : Nat) ∧
  q31a_14 ∧ (True ∧ q31a_59 ∧ True ∧ q31a_72 x0 x2 x1 ∧ q31a_72 x0 x2 x1 ∧ True) ∧ True) ∧ True) ∧ True) ∧ True
@[reducible] def q31a_74 : Prop := (0 : Int) ≤ (1 : Int) ∧ (1 : Int) < q31a_9
@[reducible] def q31a_75 (x0 : PrR) : Prop := ∃ (s : AsR), [O.ptr 148 (iO .u64 x0.b.key :: iO .u32 x0.b.win :: iO .i64 x0.b.life :: iO .i64 x0.b.rto :: iO .i64 x0.b.tries :: iO .u32 x0.b.ltag :: iO .u8 x0.b.lch.t :: iO .u8 x0.b.lch.f :: O.d (D.ints IntKind.u8 x0.b.lch.v) :: iO .i64 x0.b.at_ :: iO .i64 x0.b.left :: O.d (D.v (Value.bool x0.b.set)) :: iO .i64 x0.b.st :: iO .u32 x0.b.mt :: iO .u32 x0.b.ms :: iO .u32 x0.b.pt :: iO .u32 x0.b.ps :: q31a_11), O.ptr 152 [iO .u64 x0.b.key, iO .u32 x0.b.win, iO .i64 x0.b.life, iO .i64 x0.b.rto, iO .i64 x0.b.tries, iO .i64 x0.b.st, iO .u32 x0.b.mt, iO .u32 x0.b.pt, iO .u32 x0.b.ms, iO .u32 x0.b.ps, iO .u32 x0.b.ltag, iO .u8 x0.b.lch.t, iO .u8 x0.b.lch.f, O.d (D.ints IntKind.u8 x0.b.lch.v), O.d (D.v (Value.bool x0.b.set)), iO .i64 x0.b.at_, iO .i64 x0.b.left, O.any, O.any]] = q31a_12 s
@[reducible] def q31a_76 : Prop := (0 : Int) ≤ IntKind.i64.wrap ((1 : Int) - (1 : Int)) ∧ IntKind.i64.wrap ((1 : Int) - (1 : Int)) < q31a_9
@[reducible] def q31a_77 (x0 : PrR) (x1 : List LtrR) (x2 : PrR) : Prop := q31a_2 x0 + x1.length = q31a_2 x2 ∧ ∀ (i : Nat), i < q31a_2 x0 + x1.length → ∀ (j : Nat), j < (4 : Nat) →
  (bif i.blt (q31a_2 x0) then ltrCell x0.v i j else ltrCell x1 (i - q31a_2 x0) j) = ltrCell x2.v i j
@[reducible] def q31a_78 (x0 : PrR) (x1 : PrR) : Prop := q31a_0 x0 = q31a_0 x1 ∧ ∀ (i : Nat), i < q31a_0 x0 → ∀ (j : Nat), j < (4 : Nat) → ltrCell x0.w i j = ltrCell x1.w i j
@[reducible] def q31a_79 : Prop := (true && true && true) = true
@[reducible] def q31a_80 (x0 : PrR) (x1 : List LtrR) (x2 : PrR) : Prop := q31a_74 ∧ q31a_74 ∧ (q31a_75 x0 ∧ (True ∧ True ∧ q31a_76 ∧ (True ∧ (q31a_2 x0 + x1.length) * q31a_16 ≤ (140737488355328 : Nat) ∧
  q31a_76 ∧ (True ∧ q31a_17 x0 x2 ∧ q31a_18 x0 x2 ∧ q31a_19 x0 x2 ∧ q31a_20 x0 x2 ∧ q31a_21 x0 x2 ∧ q31a_22 x0 x2 ∧ q31a_23 x0 x2 ∧ q31a_24 x0 x2 ∧ q31a_25 x0 x2 ∧
  q31a_26 x0 x2 ∧ q31a_27 x0 x2 ∧ q31a_28 x0 x2 ∧ q31a_29 x0 x2 ∧ q31a_30 x0 x2 ∧ q31a_31 x0 x2 ∧ q31a_32 x0 x2 ∧ q31a_33 x0 x2 ∧ q31a_34 x0 x2 ∧ q31a_35 x0 x2 ∧
  q31a_36 x0 x2 ∧ q31a_37 x0 x2 ∧ q31a_38 x0 x2 ∧ q31a_39 x0 x2 ∧ q31a_40 x0 x2 ∧ q31a_41 x0 x2 ∧ q31a_42 x0 x2 ∧ q31a_43 x0 x2 ∧ q31a_44 x0 x2 ∧ q31a_45 x0 x2 ∧
  q31a_46 x0 x2 ∧ q31a_47 x0 x2 ∧ q31a_48 x0 x2 ∧ q31a_49 x0 x2 ∧ q31a_50 x0 x2 ∧ q31a_17 x0 x2 ∧ q31a_18 x0 x2 ∧ q31a_19 x0 x2 ∧ q31a_20 x0 x2 ∧ q31a_21 x0 x2 ∧
  q31a_27 x0 x2 ∧ q31a_28 x0 x2 ∧ q31a_29 x0 x2 ∧ q31a_30 x0 x2 ∧ q31a_32 x0 x2 ∧ q31a_33 x0 x2 ∧ q31a_31 x0 x2 ∧ q31a_22 x0 x2 ∧ q31a_23 x0 x2 ∧ q31a_25 x0 x2 ∧
  q31a_24 x0 x2 ∧ q31a_26 x0 x2 ∧ q31a_51 ∧ q31a_52 ∧ q31a_34 x0 x2 ∧ q31a_35 x0 x2 ∧ q31a_36 x0 x2 ∧ q31a_37 x0 x2 ∧ q31a_38 x0 x2 ∧ q31a_44 x0 x2 ∧ q31a_45 x0 x2 ∧
  q31a_46 x0 x2 ∧ q31a_47 x0 x2 ∧ q31a_49 x0 x2 ∧ q31a_50 x0 x2 ∧ q31a_48 x0 x2 ∧ q31a_39 x0 x2 ∧ q31a_40 x0 x2 ∧ q31a_42 x0 x2 ∧ q31a_41 x0 x2 ∧ q31a_43 x0 x2 ∧
  q31a_51 ∧ q31a_52 ∧ q31a_77 x0 x1 x2 ∧ q31a_78 x0 x2 ∧ x0.now = x2.now ∧ x0.draw = x2.draw ∧ q31a_55 ∧ x0.u = x2.u ∧ x0.t = x2.t ∧ q31a_79) ∧ True) ∧ True) ∧
  True) ∧ True
@[reducible] def q31a_81 (x0 : PrR) (x1 : PrR) (x2 : List LtrR) : Prop := (((((q31a_74 ∧ (True ∧ True ∧ q31a_17 x0 x1 ∧ q31a_18 x0 x1 ∧ q31a_19 x0 x1 ∧
  q31a_20 x0 x1 ∧ q31a_21 x0 x1 ∧ q31a_22 x0 x1 ∧ q31a_23 x0 x1 ∧ q31a_24 x0 x1 ∧ q31a_25 x0 x1 ∧ q31a_26 x0 x1 ∧ q31a_27 x0 x1 ∧ q31a_28 x0 x1 ∧ q31a_29 x0 x1 ∧
  q31a_30 x0 x1 ∧ q31a_31 x0 x1 ∧ q31a_32 x0 x1 ∧ q31a_33 x0 x1 ∧ q31a_34 x0 x1 ∧ q31a_35 x0 x1 ∧ q31a_36 x0 x1 ∧ q31a_37 x0 x1 ∧ q31a_38 x0 x1 ∧ q31a_39 x0 x1 ∧
  q31a_40 x0 x1 ∧ q31a_41 x0 x1 ∧ q31a_42 x0 x1 ∧ q31a_43 x0 x1 ∧ q31a_44 x0 x1 ∧ q31a_45 x0 x1 ∧ q31a_46 x0 x1 ∧ q31a_47 x0 x1 ∧ q31a_48 x0 x1 ∧ q31a_49 x0 x1 ∧
  q31a_50 x0 x1 ∧ q31a_17 x0 x1 ∧ q31a_18 x0 x1 ∧ q31a_19 x0 x1 ∧ q31a_20 x0 x1 ∧ q31a_21 x0 x1 ∧ q31a_27 x0 x1 ∧ q31a_28 x0 x1 ∧ q31a_29 x0 x1 ∧ q31a_30 x0 x1 ∧
  q31a_32 x0 x1 ∧ q31a_33 x0 x1 ∧ q31a_31 x0 x1 ∧ q31a_22 x0 x1 ∧ q31a_23 x0 x1 ∧ q31a_25 x0 x1 ∧ q31a_24 x0 x1 ∧ q31a_26 x0 x1 ∧ q31a_51 ∧ q31a_52 ∧ q31a_34 x0 x1 ∧
  q31a_35 x0 x1 ∧ q31a_36 x0 x1 ∧ q31a_37 x0 x1 ∧ q31a_38 x0 x1 ∧ q31a_44 x0 x1 ∧ q31a_45 x0 x1 ∧ q31a_46 x0 x1 ∧ q31a_47 x0 x1 ∧ q31a_49 x0 x1 ∧ q31a_50 x0 x1 ∧
  q31a_48 x0 x1 ∧ q31a_39 x0 x1 ∧ q31a_40 x0 x1 ∧ q31a_42 x0 x1 ∧ q31a_41 x0 x1 ∧ q31a_43 x0 x1 ∧ q31a_51 ∧ q31a_52 ∧ q31a_77 x0 x2 x1 ∧ q31a_78 x0 x1 ∧ x0.now = x1.now ∧
  x0.draw = x1.draw ∧ q31a_55 ∧ x0.u = x1.u ∧ true = x1.t ∧ q31a_79) ∧ True) ∧ True) ∧ True) ∧ True) ∧ True) ∧ True
@[reducible] def q31a_82 (x0 : PrR) (x1 : List LtrR) (x2 : PrR) : Prop := q31a_74 ∧ q31a_74 ∧ (q31a_75 x0 ∧ (True ∧ True ∧ q31a_76 ∧ (True ∧ (q31a_2 x0 + x1.length) * q31a_16 ≤ (140737488355328 : Nat) ∧
  q31a_76 ∧ (True ∧ q31a_59 ∧ True ∧ (q31a_81 x0 x2 x1 ∧ q31a_81 x0 x2 x1 ∧ True) ∧ (q31a_81 x0 x2 x1 ∧ True) ∧ True) ∧ True) ∧ True) ∧ True) ∧ True
@[reducible] def q31a_83 (x0 : PrR) (x1 : PrR) (x2 : List LtrR) : Prop := q31a_59 ∧ True ∧ (q31a_74 ∧ (True ∧ True ∧ q31a_17 x0 x1 ∧ q31a_18 x0 x1 ∧ q31a_19 x0 x1 ∧
  q31a_20 x0 x1 ∧ q31a_21 x0 x1 ∧ q31a_22 x0 x1 ∧ q31a_23 x0 x1 ∧ q31a_24 x0 x1 ∧ q31a_25 x0 x1 ∧ q31a_26 x0 x1 ∧ q31a_27 x0 x1 ∧ q31a_28 x0 x1 ∧ q31a_29 x0 x1 ∧
  q31a_30 x0 x1 ∧ q31a_31 x0 x1 ∧ q31a_32 x0 x1 ∧ q31a_33 x0 x1 ∧ q31a_34 x0 x1 ∧ q31a_35 x0 x1 ∧ q31a_36 x0 x1 ∧ q31a_37 x0 x1 ∧ q31a_38 x0 x1 ∧ q31a_39 x0 x1 ∧
  q31a_40 x0 x1 ∧ q31a_41 x0 x1 ∧ q31a_42 x0 x1 ∧ q31a_43 x0 x1 ∧ q31a_44 x0 x1 ∧ q31a_45 x0 x1 ∧ q31a_46 x0 x1 ∧ q31a_47 x0 x1 ∧ q31a_48 x0 x1 ∧ q31a_49 x0 x1 ∧
  q31a_50 x0 x1 ∧ q31a_17 x0 x1 ∧ q31a_18 x0 x1 ∧ q31a_19 x0 x1 ∧ q31a_20 x0 x1 ∧ q31a_21 x0 x1 ∧ q31a_27 x0 x1 ∧ q31a_28 x0 x1 ∧ q31a_29 x0 x1 ∧ q31a_30 x0 x1 ∧
  q31a_32 x0 x1 ∧ q31a_33 x0 x1 ∧ q31a_31 x0 x1 ∧ q31a_22 x0 x1 ∧ q31a_23 x0 x1 ∧ q31a_25 x0 x1 ∧ q31a_24 x0 x1 ∧ q31a_26 x0 x1 ∧ q31a_51 ∧ q31a_52 ∧ q31a_34 x0 x1 ∧
  q31a_35 x0 x1 ∧ q31a_36 x0 x1 ∧ q31a_37 x0 x1 ∧ q31a_38 x0 x1 ∧ q31a_44 x0 x1 ∧ q31a_45 x0 x1 ∧ q31a_46 x0 x1 ∧ q31a_47 x0 x1 ∧ q31a_49 x0 x1 ∧ q31a_50 x0 x1 ∧
  q31a_48 x0 x1 ∧ q31a_39 x0 x1 ∧ q31a_40 x0 x1 ∧ q31a_42 x0 x1 ∧ q31a_41 x0 x1 ∧ q31a_43 x0 x1 ∧ q31a_51 ∧ q31a_52 ∧ q31a_77 x0 x2 x1 ∧ q31a_78 x0 x1 ∧ x0.now = x1.now ∧
  x0.draw = x1.draw ∧ q31a_55 ∧ x0.u = x1.u ∧ q31a_63 = x1.t ∧ q31a_79) ∧ True) ∧ True
@[reducible] def q31a_84 (x0 : PrR) (x1 : List LtrR) (x2 : PrR) : Prop := q31a_74 ∧ q31a_74 ∧ (q31a_75 x0 ∧ (True ∧ True ∧ q31a_76 ∧ (True ∧ (q31a_2 x0 + x1.length) * q31a_16 ≤ (140737488355328 : Nat) ∧
  q31a_76 ∧ (True ∧ q31a_59 ∧ True ∧ q31a_83 x0 x2 x1 ∧ q31a_83 x0 x2 x1 ∧ True) ∧ True) ∧ True) ∧ True) ∧ True
@[reducible] def q31a_85 (x0 : PrR) (x1 : PrR) (x2 : List LtrR) : Prop := q31a_59 ∧ True ∧ (q31a_74 ∧ (True ∧ True ∧ q31a_17 x0 x1 ∧ q31a_18 x0 x1 ∧ q31a_19 x0 x1 ∧
  q31a_20 x0 x1 ∧ q31a_21 x0 x1 ∧ q31a_22 x0 x1 ∧ q31a_23 x0 x1 ∧ q31a_24 x0 x1 ∧ q31a_25 x0 x1 ∧ q31a_26 x0 x1 ∧ q31a_27 x0 x1 ∧ q31a_28 x0 x1 ∧ q31a_29 x0 x1 ∧
  q31a_30 x0 x1 ∧ q31a_31 x0 x1 ∧ q31a_32 x0 x1 ∧ q31a_33 x0 x1 ∧ q31a_34 x0 x1 ∧ q31a_35 x0 x1 ∧ q31a_36 x0 x1 ∧ q31a_37 x0 x1 ∧ q31a_38 x0 x1 ∧ q31a_39 x0 x1 ∧
  q31a_40 x0 x1 ∧ q31a_41 x0 x1 ∧ q31a_42 x0 x1 ∧ q31a_43 x0 x1 ∧ q31a_44 x0 x1 ∧ q31a_45 x0 x1 ∧ q31a_46 x0 x1 ∧ q31a_47 x0 x1 ∧ q31a_48 x0 x1 ∧ q31a_49 x0 x1 ∧
  q31a_50 x0 x1 ∧ q31a_17 x0 x1 ∧ q31a_18 x0 x1 ∧ q31a_19 x0 x1 ∧ q31a_20 x0 x1 ∧ q31a_21 x0 x1 ∧ q31a_27 x0 x1 ∧ q31a_28 x0 x1 ∧ q31a_29 x0 x1 ∧ q31a_30 x0 x1 ∧
  q31a_32 x0 x1 ∧ q31a_33 x0 x1 ∧ q31a_31 x0 x1 ∧ q31a_22 x0 x1 ∧ q31a_23 x0 x1 ∧ q31a_25 x0 x1 ∧ q31a_24 x0 x1 ∧ q31a_26 x0 x1 ∧ q31a_51 ∧ q31a_52 ∧ q31a_34 x0 x1 ∧
  q31a_35 x0 x1 ∧ q31a_36 x0 x1 ∧ q31a_37 x0 x1 ∧ q31a_38 x0 x1 ∧ q31a_44 x0 x1 ∧ q31a_45 x0 x1 ∧ q31a_46 x0 x1 ∧ q31a_47 x0 x1 ∧ q31a_49 x0 x1 ∧ q31a_50 x0 x1 ∧
  q31a_48 x0 x1 ∧ q31a_39 x0 x1 ∧ q31a_40 x0 x1 ∧ q31a_42 x0 x1 ∧ q31a_41 x0 x1 ∧ q31a_43 x0 x1 ∧ q31a_51 ∧ q31a_52 ∧ q31a_77 x0 x2 x1 ∧ q31a_78 x0 x1 ∧ x0.now = x1.now ∧
  x0.draw = x1.draw ∧ q31a_55 ∧ x0.u = x1.u ∧ q31a_67 = x1.t ∧ q31a_79) ∧ True) ∧ True
@[reducible] def q31a_86 (x0 : PrR) (x1 : List LtrR) (x2 : PrR) : Prop := q31a_74 ∧ q31a_74 ∧ (q31a_75 x0 ∧ (True ∧ True ∧ q31a_76 ∧ (True ∧ (q31a_2 x0 + x1.length) * q31a_16 ≤ (140737488355328 : Nat) ∧
  q31a_76 ∧ (True ∧ q31a_59 ∧ True ∧ q31a_85 x0 x2 x1 ∧ q31a_85 x0 x2 x1 ∧ True) ∧ True) ∧ True) ∧ True) ∧ True
@[reducible] def q31a_87 (x0 : PrR) (x1 : PrR) (x2 : List LtrR) : Prop := q31a_59 ∧ True ∧ (q31a_74 ∧ (True ∧ True ∧ q31a_17 x0 x1 ∧ q31a_18 x0 x1 ∧ q31a_19 x0 x1 ∧
  q31a_20 x0 x1 ∧ q31a_21 x0 x1 ∧ q31a_22 x0 x1 ∧ q31a_23 x0 x1 ∧ q31a_24 x0 x1 ∧ q31a_25 x0 x1 ∧ q31a_26 x0 x1 ∧ q31a_27 x0 x1 ∧ q31a_28 x0 x1 ∧ q31a_29 x0 x1 ∧
  q31a_30 x0 x1 ∧ q31a_31 x0 x1 ∧ q31a_32 x0 x1 ∧ q31a_33 x0 x1 ∧ q31a_34 x0 x1 ∧ q31a_35 x0 x1 ∧ q31a_36 x0 x1 ∧ q31a_37 x0 x1 ∧ q31a_38 x0 x1 ∧ q31a_39 x0 x1 ∧
  q31a_40 x0 x1 ∧ q31a_41 x0 x1 ∧ q31a_42 x0 x1 ∧ q31a_43 x0 x1 ∧ q31a_44 x0 x1 ∧ q31a_45 x0 x1 ∧ q31a_46 x0 x1 ∧ q31a_47 x0 x1 ∧ q31a_48 x0 x1 ∧ q31a_49 x0 x1 ∧
  q31a_50 x0 x1 ∧ q31a_17 x0 x1 ∧ q31a_18 x0 x1 ∧ q31a_19 x0 x1 ∧ q31a_20 x0 x1 ∧ q31a_21 x0 x1 ∧ q31a_27 x0 x1 ∧ q31a_28 x0 x1 ∧ q31a_29 x0 x1 ∧ q31a_30 x0 x1 ∧
  q31a_32 x0 x1 ∧ q31a_33 x0 x1 ∧ q31a_31 x0 x1 ∧ q31a_22 x0 x1 ∧ q31a_23 x0 x1 ∧ q31a_25 x0 x1 ∧ q31a_24 x0 x1 ∧ q31a_26 x0 x1 ∧ q31a_51 ∧ q31a_52 ∧ q31a_34 x0 x1 ∧
  q31a_35 x0 x1 ∧ q31a_36 x0 x1 ∧ q31a_37 x0 x1 ∧ q31a_38 x0 x1 ∧ q31a_44 x0 x1 ∧ q31a_45 x0 x1 ∧ q31a_46 x0 x1 ∧ q31a_47 x0 x1 ∧ q31a_49 x0 x1 ∧ q31a_50 x0 x1 ∧
  q31a_48 x0 x1 ∧ q31a_39 x0 x1 ∧ q31a_40 x0 x1 ∧ q31a_42 x0 x1 ∧ q31a_41 x0 x1 ∧ q31a_43 x0 x1 ∧ q31a_51 ∧ q31a_52 ∧ q31a_77 x0 x2 x1 ∧ q31a_78 x0 x1 ∧ x0.now = x1.now ∧
  x0.draw = x1.draw ∧ q31a_55 ∧ x0.u = x1.u ∧ q31a_71 = x1.t ∧ q31a_79) ∧ True) ∧ True
@[reducible] def q31a_88 (x0 : PrR) (x1 : List LtrR) (x2 : PrR) : Prop := q31a_74 ∧ q31a_74 ∧ (q31a_75 x0 ∧ (True ∧ True ∧ q31a_76 ∧ (True ∧ (q31a_2 x0 + x1.length) * q31a_16 ≤ (140737488355328 : Nat) ∧
  q31a_76 ∧ (True ∧ q31a_59 ∧ True ∧ q31a_87 x0 x2 x1 ∧ q31a_87 x0 x2 x1 ∧ True) ∧ True) ∧ True) ∧ True) ∧ True
set_option maxHeartbeats 4000000 in
theorem vc31a : ∀ (p : PrR), have y := q31a_1 p; have y_1 := q31a_3 p; ∀ (l : List LtrR), have y_2 := q31a_4 l; have y_3 := saidF (q31a_5 p y_1 y) (0 : Int) (OutR.mk y_2 []);
  okP (2000 : Nat) p → okO (OutR.mk l []) → (q31a_8 l ∧ q31a_57 p l y_3 ∧ q31a_57 p l y_3 ∧ q31a_57 p l y_3 ∧ q31a_57 p l y_3 ∧ True) ∧ True := by
  delta q31a_0 q31a_1 q31a_2 q31a_3 q31a_4 q31a_5 q31a_6 q31a_7 q31a_8 q31a_9 q31a_10 q31a_11 q31a_12 q31a_13 q31a_14 q31a_16 q31a_17 q31a_18 q31a_19
    q31a_20 q31a_21 q31a_22 q31a_23 q31a_24 q31a_25 q31a_26 q31a_27 q31a_28 q31a_29 q31a_30 q31a_31 q31a_32 q31a_33 q31a_34 q31a_35 q31a_36 q31a_37
    q31a_38 q31a_39 q31a_40 q31a_41 q31a_42 q31a_43 q31a_44 q31a_45 q31a_46 q31a_47 q31a_48 q31a_49 q31a_50 q31a_51 q31a_52 q31a_53 q31a_54 q31a_55
    q31a_56 q31a_57 iO
  simp only [ltrsOf_ltrs, pr_eta]
  intro p l hp ho
  have hl := hp.len
  unfold lenP at hl
  have hb := said_room (v := p.w) (l := l) (n := 2000) (by omega) (Nat.le_refl _) ho.2.1
  repeat' (first | exact ⟨_, rfl, ho⟩ | exact ⟨_, rfl⟩ | exact hb | exact List.length_append.symm | exact rfl | exact trivial | exact by decide | (intro i hi j hj; exact ltr_app p.w l i j) | (intro i hi j hj; exact rfl) | apply And.intro)
-- a

set_option maxHeartbeats 4000000 in
theorem vc31b : ∀ (p : PrR), have y := q31a_3 p; have y_1 := q31a_1 p; ∀ (l : List LtrR), have y_2 := q31a_4 l; have y_3 := saidF (q31a_5 p y y_1) (0 : Int) (OutR.mk y_2 [(1 : Int)]);
  okP (2000 : Nat) p → okO (OutR.mk l [(1 : Int)]) → (q31a_58 l ∧ q31a_61 p l y_3 ∧ q31a_61 p l y_3 ∧ q31a_61 p l y_3 ∧ q31a_61 p l y_3 ∧ True) ∧ True := by
  delta q31a_0 q31a_1 q31a_2 q31a_3 q31a_4 q31a_5 q31a_6 q31a_7 q31a_9 q31a_10 q31a_11 q31a_12 q31a_13 q31a_14 q31a_16 q31a_17 q31a_18 q31a_19 q31a_20
    q31a_21 q31a_22 q31a_23 q31a_24 q31a_25 q31a_26 q31a_27 q31a_28 q31a_29 q31a_30 q31a_31 q31a_32 q31a_33 q31a_34 q31a_35 q31a_36 q31a_37 q31a_38
    q31a_39 q31a_40 q31a_41 q31a_42 q31a_43 q31a_44 q31a_45 q31a_46 q31a_47 q31a_48 q31a_49 q31a_50 q31a_51 q31a_52 q31a_53 q31a_54 q31a_55 q31a_56
    q31a_58 q31a_59 q31a_60 q31a_61 iO
  simp only [ltrsOf_ltrs, pr_eta]
  intro p l hp ho
  have hl := hp.len
  unfold lenP at hl
  have hb := said_room (v := p.w) (l := l) (n := 2000) (by omega) (Nat.le_refl _) ho.2.1
  repeat' (first | exact ⟨_, rfl, ho⟩ | exact ⟨_, rfl⟩ | exact hb | exact List.length_append.symm | exact rfl | exact trivial | exact by decide | (intro i hi j hj; exact ltr_app p.w l i j) | (intro i hi j hj; exact rfl) | apply And.intro)
-- b

set_option maxHeartbeats 4000000 in
theorem vc31c : ∀ (p : PrR), have y := q31a_3 p; have y_1 := q31a_1 p; ∀ (l : List LtrR), have y_2 := q31a_4 l; have y_3 := saidF (q31a_5 p y y_1) (0 : Int) (OutR.mk y_2 [(2 : Int)]);
  okP (2000 : Nat) p → okO (OutR.mk l [(2 : Int)]) → (q31a_62 l ∧ q31a_65 p l y_3 ∧ q31a_65 p l y_3 ∧ q31a_65 p l y_3 ∧ q31a_65 p l y_3 ∧ True) ∧ True := by
  delta q31a_0 q31a_1 q31a_2 q31a_3 q31a_4 q31a_5 q31a_6 q31a_7 q31a_9 q31a_10 q31a_11 q31a_12 q31a_13 q31a_14 q31a_16 q31a_17 q31a_18 q31a_19 q31a_20
    q31a_21 q31a_22 q31a_23 q31a_24 q31a_25 q31a_26 q31a_27 q31a_28 q31a_29 q31a_30 q31a_31 q31a_32 q31a_33 q31a_34 q31a_35 q31a_36 q31a_37 q31a_38
    q31a_39 q31a_40 q31a_41 q31a_42 q31a_43 q31a_44 q31a_45 q31a_46 q31a_47 q31a_48 q31a_49 q31a_50 q31a_51 q31a_52 q31a_53 q31a_54 q31a_55 q31a_56
    q31a_59 q31a_62 q31a_63 q31a_64 q31a_65 iO
  simp only [ltrsOf_ltrs, pr_eta]
  intro p l hp ho
  have hl := hp.len
  unfold lenP at hl
  have hb := said_room (v := p.w) (l := l) (n := 2000) (by omega) (Nat.le_refl _) ho.2.1
  repeat' (first | exact ⟨_, rfl, ho⟩ | exact ⟨_, rfl⟩ | exact hb | exact List.length_append.symm | exact rfl | exact trivial | exact by decide | (intro i hi j hj; exact ltr_app p.w l i j) | (intro i hi j hj; exact rfl) | apply And.intro)
-- c

set_option maxHeartbeats 4000000 in
theorem vc31d : ∀ (p : PrR), have y := q31a_3 p; have y_1 := q31a_1 p; ∀ (l : List LtrR), have y_2 := q31a_4 l; have y_3 := saidF (q31a_5 p y y_1) (0 : Int) (OutR.mk y_2 [(3 : Int)]);
  okP (2000 : Nat) p → okO (OutR.mk l [(3 : Int)]) → (q31a_66 l ∧ q31a_69 p l y_3 ∧ q31a_69 p l y_3 ∧ q31a_69 p l y_3 ∧ q31a_69 p l y_3 ∧ True) ∧ True := by
  delta q31a_0 q31a_1 q31a_2 q31a_3 q31a_4 q31a_5 q31a_6 q31a_7 q31a_9 q31a_10 q31a_11 q31a_12 q31a_13 q31a_14 q31a_16 q31a_17 q31a_18 q31a_19 q31a_20
    q31a_21 q31a_22 q31a_23 q31a_24 q31a_25 q31a_26 q31a_27 q31a_28 q31a_29 q31a_30 q31a_31 q31a_32 q31a_33 q31a_34 q31a_35 q31a_36 q31a_37 q31a_38
    q31a_39 q31a_40 q31a_41 q31a_42 q31a_43 q31a_44 q31a_45 q31a_46 q31a_47 q31a_48 q31a_49 q31a_50 q31a_51 q31a_52 q31a_53 q31a_54 q31a_55 q31a_56
    q31a_59 q31a_66 q31a_67 q31a_68 q31a_69 iO
  simp only [ltrsOf_ltrs, pr_eta]
  intro p l hp ho
  have hl := hp.len
  unfold lenP at hl
  have hb := said_room (v := p.w) (l := l) (n := 2000) (by omega) (Nat.le_refl _) ho.2.1
  repeat' (first | exact ⟨_, rfl, ho⟩ | exact ⟨_, rfl⟩ | exact hb | exact List.length_append.symm | exact rfl | exact trivial | exact by decide | (intro i hi j hj; exact ltr_app p.w l i j) | (intro i hi j hj; exact rfl) | apply And.intro)
-- d

set_option maxHeartbeats 4000000 in
theorem vc31e : ∀ (p : PrR), have y := q31a_3 p; have y_1 := q31a_1 p; ∀ (l : List LtrR), have y_2 := q31a_4 l; have y_3 := saidF (q31a_5 p y y_1) (0 : Int) (OutR.mk y_2 [(4 : Int)]);
  okP (2000 : Nat) p → okO (OutR.mk l [(4 : Int)]) → (q31a_70 l ∧ q31a_73 p l y_3 ∧ q31a_73 p l y_3 ∧ q31a_73 p l y_3 ∧ q31a_73 p l y_3 ∧ True) ∧ True := by
  delta q31a_0 q31a_1 q31a_2 q31a_3 q31a_4 q31a_5 q31a_6 q31a_7 q31a_9 q31a_10 q31a_11 q31a_12 q31a_13 q31a_14 q31a_16 q31a_17 q31a_18 q31a_19 q31a_20
    q31a_21 q31a_22 q31a_23 q31a_24 q31a_25 q31a_26 q31a_27 q31a_28 q31a_29 q31a_30 q31a_31 q31a_32 q31a_33 q31a_34 q31a_35 q31a_36 q31a_37 q31a_38
    q31a_39 q31a_40 q31a_41 q31a_42 q31a_43 q31a_44 q31a_45 q31a_46 q31a_47 q31a_48 q31a_49 q31a_50 q31a_51 q31a_52 q31a_53 q31a_54 q31a_55 q31a_56
    q31a_59 q31a_70 q31a_71 q31a_72 q31a_73 iO
  simp only [ltrsOf_ltrs, pr_eta]
  intro p l hp ho
  have hl := hp.len
  unfold lenP at hl
  have hb := said_room (v := p.w) (l := l) (n := 2000) (by omega) (Nat.le_refl _) ho.2.1
  repeat' (first | exact ⟨_, rfl, ho⟩ | exact ⟨_, rfl⟩ | exact hb | exact List.length_append.symm | exact rfl | exact trivial | exact by decide | (intro i hi j hj; exact ltr_app p.w l i j) | (intro i hi j hj; exact rfl) | apply And.intro)
-- e

set_option maxHeartbeats 4000000 in
theorem vc31f : ∀ (p : PrR), have y := q31a_1 p; have y_1 := q31a_3 p; ∀ (l : List LtrR), have y_2 := q31a_4 l; have y_3 := saidF (q31a_5 p y_1 y) (1 : Int) (OutR.mk y_2 []);
  okP (2000 : Nat) p → okO (OutR.mk l []) → (q31a_8 l ∧ q31a_80 p l y_3 ∧ q31a_80 p l y_3 ∧ q31a_80 p l y_3 ∧ q31a_80 p l y_3 ∧ True) ∧ True := by
  delta q31a_0 q31a_1 q31a_2 q31a_3 q31a_4 q31a_5 q31a_6 q31a_7 q31a_8 q31a_9 q31a_11 q31a_12 q31a_16 q31a_17 q31a_18 q31a_19 q31a_20 q31a_21 q31a_22
    q31a_23 q31a_24 q31a_25 q31a_26 q31a_27 q31a_28 q31a_29 q31a_30 q31a_31 q31a_32 q31a_33 q31a_34 q31a_35 q31a_36 q31a_37 q31a_38 q31a_39 q31a_40
    q31a_41 q31a_42 q31a_43 q31a_44 q31a_45 q31a_46 q31a_47 q31a_48 q31a_49 q31a_50 q31a_51 q31a_52 q31a_55 q31a_74 q31a_75 q31a_76 q31a_77 q31a_78
    q31a_79 q31a_80 iO
  simp only [ltrsOf_ltrs, pr_eta]
  intro p l hp ho
  have hl := hp.len
  unfold lenP at hl
  have hb := said_room (v := p.v) (l := l) (n := 2000) (by omega) (Nat.le_refl _) ho.2.1
  repeat' (first | exact ⟨_, rfl, ho⟩ | exact ⟨_, rfl⟩ | exact hb | exact List.length_append.symm | exact rfl | exact trivial | exact by decide | (intro i hi j hj; exact ltr_app p.v l i j) | (intro i hi j hj; exact rfl) | apply And.intro)
-- f

set_option maxHeartbeats 4000000 in
theorem vc31g : ∀ (p : PrR), have y := q31a_3 p; have y_1 := q31a_1 p; ∀ (l : List LtrR), have y_2 := q31a_4 l; have y_3 := saidF (q31a_5 p y y_1) (1 : Int) (OutR.mk y_2 [(1 : Int)]);
  okP (2000 : Nat) p → okO (OutR.mk l [(1 : Int)]) → (q31a_58 l ∧ q31a_82 p l y_3 ∧ q31a_82 p l y_3 ∧ q31a_82 p l y_3 ∧ q31a_82 p l y_3 ∧ True) ∧ True := by
  delta q31a_0 q31a_1 q31a_2 q31a_3 q31a_4 q31a_5 q31a_6 q31a_7 q31a_9 q31a_11 q31a_12 q31a_16 q31a_17 q31a_18 q31a_19 q31a_20 q31a_21 q31a_22 q31a_23
    q31a_24 q31a_25 q31a_26 q31a_27 q31a_28 q31a_29 q31a_30 q31a_31 q31a_32 q31a_33 q31a_34 q31a_35 q31a_36 q31a_37 q31a_38 q31a_39 q31a_40 q31a_41
    q31a_42 q31a_43 q31a_44 q31a_45 q31a_46 q31a_47 q31a_48 q31a_49 q31a_50 q31a_51 q31a_52 q31a_55 q31a_58 q31a_59 q31a_74 q31a_75 q31a_76 q31a_77
    q31a_78 q31a_79 q31a_81 q31a_82 iO
  simp only [ltrsOf_ltrs, pr_eta]
  intro p l hp ho
  have hl := hp.len
  unfold lenP at hl
  have hb := said_room (v := p.v) (l := l) (n := 2000) (by omega) (Nat.le_refl _) ho.2.1
  repeat' (first | exact ⟨_, rfl, ho⟩ | exact ⟨_, rfl⟩ | exact hb | exact List.length_append.symm | exact rfl | exact trivial | exact by decide | (intro i hi j hj; exact ltr_app p.v l i j) | (intro i hi j hj; exact rfl) | apply And.intro)
-- g

set_option maxHeartbeats 4000000 in
theorem vc31h : ∀ (p : PrR), have y := q31a_1 p; have y_1 := q31a_3 p; ∀ (l : List LtrR), have y_2 := q31a_4 l; have y_3 := saidF (q31a_5 p y_1 y) (1 : Int) (OutR.mk y_2 [(2 : Int)]);
  okP (2000 : Nat) p → okO (OutR.mk l [(2 : Int)]) → (q31a_62 l ∧ q31a_84 p l y_3 ∧ q31a_84 p l y_3 ∧ q31a_84 p l y_3 ∧ q31a_84 p l y_3 ∧ True) ∧ True := by
  delta q31a_0 q31a_1 q31a_2 q31a_3 q31a_4 q31a_5 q31a_6 q31a_7 q31a_9 q31a_11 q31a_12 q31a_16 q31a_17 q31a_18 q31a_19 q31a_20 q31a_21 q31a_22 q31a_23
    q31a_24 q31a_25 q31a_26 q31a_27 q31a_28 q31a_29 q31a_30 q31a_31 q31a_32 q31a_33 q31a_34 q31a_35 q31a_36 q31a_37 q31a_38 q31a_39 q31a_40 q31a_41
    q31a_42 q31a_43 q31a_44 q31a_45 q31a_46 q31a_47 q31a_48 q31a_49 q31a_50 q31a_51 q31a_52 q31a_55 q31a_59 q31a_62 q31a_63 q31a_74 q31a_75 q31a_76
    q31a_77 q31a_78 q31a_79 q31a_83 q31a_84 iO
  simp only [ltrsOf_ltrs, pr_eta]
  intro p l hp ho
  have hl := hp.len
  unfold lenP at hl
  have hb := said_room (v := p.v) (l := l) (n := 2000) (by omega) (Nat.le_refl _) ho.2.1
  repeat' (first | exact ⟨_, rfl, ho⟩ | exact ⟨_, rfl⟩ | exact hb | exact List.length_append.symm | exact rfl | exact trivial | exact by decide | (intro i hi j hj; exact ltr_app p.v l i j) | (intro i hi j hj; exact rfl) | apply And.intro)
-- h

set_option maxHeartbeats 4000000 in
theorem vc31i : ∀ (p : PrR), have y := q31a_3 p; have y_1 := q31a_1 p; ∀ (l : List LtrR), have y_2 := q31a_4 l; have y_3 := saidF (q31a_5 p y y_1) (1 : Int) (OutR.mk y_2 [(3 : Int)]);
  okP (2000 : Nat) p → okO (OutR.mk l [(3 : Int)]) → (q31a_66 l ∧ q31a_86 p l y_3 ∧ q31a_86 p l y_3 ∧ q31a_86 p l y_3 ∧ q31a_86 p l y_3 ∧ True) ∧ True := by
  delta q31a_0 q31a_1 q31a_2 q31a_3 q31a_4 q31a_5 q31a_6 q31a_7 q31a_9 q31a_11 q31a_12 q31a_16 q31a_17 q31a_18 q31a_19 q31a_20 q31a_21 q31a_22 q31a_23
    q31a_24 q31a_25 q31a_26 q31a_27 q31a_28 q31a_29 q31a_30 q31a_31 q31a_32 q31a_33 q31a_34 q31a_35 q31a_36 q31a_37 q31a_38 q31a_39 q31a_40 q31a_41
    q31a_42 q31a_43 q31a_44 q31a_45 q31a_46 q31a_47 q31a_48 q31a_49 q31a_50 q31a_51 q31a_52 q31a_55 q31a_59 q31a_66 q31a_67 q31a_74 q31a_75 q31a_76
    q31a_77 q31a_78 q31a_79 q31a_85 q31a_86 iO
  simp only [ltrsOf_ltrs, pr_eta]
  intro p l hp ho
  have hl := hp.len
  unfold lenP at hl
  have hb := said_room (v := p.v) (l := l) (n := 2000) (by omega) (Nat.le_refl _) ho.2.1
  repeat' (first | exact ⟨_, rfl, ho⟩ | exact ⟨_, rfl⟩ | exact hb | exact List.length_append.symm | exact rfl | exact trivial | exact by decide | (intro i hi j hj; exact ltr_app p.v l i j) | (intro i hi j hj; exact rfl) | apply And.intro)
-- i

set_option maxHeartbeats 4000000 in
theorem vc31j : ∀ (p : PrR), have y := q31a_1 p; have y_1 := q31a_3 p; ∀ (l : List LtrR), have y_2 := q31a_4 l; have y_3 := saidF (q31a_5 p y_1 y) (1 : Int) (OutR.mk y_2 [(4 : Int)]);
  okP (2000 : Nat) p → okO (OutR.mk l [(4 : Int)]) → (q31a_70 l ∧ q31a_88 p l y_3 ∧ q31a_88 p l y_3 ∧ q31a_88 p l y_3 ∧ q31a_88 p l y_3 ∧ True) ∧ True := by
  delta q31a_0 q31a_1 q31a_2 q31a_3 q31a_4 q31a_5 q31a_6 q31a_7 q31a_9 q31a_11 q31a_12 q31a_16 q31a_17 q31a_18 q31a_19 q31a_20 q31a_21 q31a_22 q31a_23
    q31a_24 q31a_25 q31a_26 q31a_27 q31a_28 q31a_29 q31a_30 q31a_31 q31a_32 q31a_33 q31a_34 q31a_35 q31a_36 q31a_37 q31a_38 q31a_39 q31a_40 q31a_41
    q31a_42 q31a_43 q31a_44 q31a_45 q31a_46 q31a_47 q31a_48 q31a_49 q31a_50 q31a_51 q31a_52 q31a_55 q31a_59 q31a_70 q31a_71 q31a_74 q31a_75 q31a_76
    q31a_77 q31a_78 q31a_79 q31a_87 q31a_88 iO
  simp only [ltrsOf_ltrs, pr_eta]
  intro p l hp ho
  have hl := hp.len
  unfold lenP at hl
  have hb := said_room (v := p.v) (l := l) (n := 2000) (by omega) (Nat.le_refl _) ho.2.1
  repeat' (first | exact ⟨_, rfl, ho⟩ | exact ⟨_, rfl⟩ | exact hb | exact List.length_append.symm | exact rfl | exact trivial | exact by decide | (intro i hi j hj; exact ltr_app p.v l i j) | (intro i hi j hj; exact rfl) | apply And.intro)
-- j
theorem ok31 : FnIs Try.prog 31 saidC0 := by
  refine fnIs (C := ctrs l4) (by kernel_rfl) l4_ok Try.func31 (code := code31a) (by kernel_rfl) (by kernel_rfl) ?_
  rintro a ⟨p, s, ⟨l, ev⟩, rfl, hs, hp, ho⟩
  have he : evs ev := ho.2.2
  rcases hs with rfl | rfl
  · rcases he with rfl | rfl | rfl | rfl | rfl
    · exact ⟨anns [] [] [(5, 3)], kcast (vc31a p l hp ho) (by kernel_rfl)⟩
    · exact ⟨anns [] [] [(5, 3)], kcast (vc31b p l hp ho) (by kernel_rfl)⟩
    · exact ⟨anns [] [] [(5, 3)], kcast (vc31c p l hp ho) (by kernel_rfl)⟩
    · exact ⟨anns [] [] [(5, 3)], kcast (vc31d p l hp ho) (by kernel_rfl)⟩
    · exact ⟨anns [] [] [(5, 3)], kcast (vc31e p l hp ho) (by kernel_rfl)⟩
  · rcases he with rfl | rfl | rfl | rfl | rfl
    · exact ⟨anns [] [] [(5, 3)], kcast (vc31f p l hp ho) (by kernel_rfl)⟩
    · exact ⟨anns [] [] [(5, 3)], kcast (vc31g p l hp ho) (by kernel_rfl)⟩
    · exact ⟨anns [] [] [(5, 3)], kcast (vc31h p l hp ho) (by kernel_rfl)⟩
    · exact ⟨anns [] [] [(5, 3)], kcast (vc31i p l hp ho) (by kernel_rfl)⟩
    · exact ⟨anns [] [] [(5, 3)], kcast (vc31j p l hp ho) (by kernel_rfl)⟩

end Go.ZR
