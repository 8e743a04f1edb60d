/- Part 26 of what the closing text rests on. -/
import Derived.Test.YtlbfenfepmmihaaI24
import Derived.Test.YtlbfenfepmmihaaRows
namespace Go.ZR
open Go.Proofs
open Go.Z Go.ZM Go.RowKit
set_option maxRecDepth 100000
@[reducible] noncomputable def q36b_0 (x0 : PrR) : Nat := x0.w.length
@[reducible] noncomputable def q36b_1 (x0 : PrR) : List LtrR := ltrsOf (D.recs 4 (q36b_0 x0) (ltrCell x0.w))
@[reducible] noncomputable def q36b_2 (x0 : PrR) : Nat := x0.v.length
@[reducible] noncomputable def q36b_3 (x0 : PrR) : List LtrR := ltrsOf (D.recs 4 (q36b_2 x0) (ltrCell x0.v))
@[reducible] noncomputable def q36b_4 (x0 : Int) : Bool := !decide (x0.tmod (2 : Int) = (0 : Int))
@[reducible] def q36b_5 : Prop := (0 : Int) ≤ (1 : Int) ∧ (1 : Int) < (↑(2 : Nat) : Int)
@[reducible] noncomputable def q36b_6 (x0 : PrR) : Int := (↑(q36b_0 x0) : Int)
@[reducible] noncomputable def q36b_7 (x0 : PrR) : Bool := decide ((0 : Int) < q36b_6 x0)
@[reducible] noncomputable def q36b_8 (x0 : Int) : Bool := decide ((0 : Int) < x0)
@[reducible] noncomputable def q36b_10 : TypeInfo := Try.prog.types[150]
@[reducible] def q36b_11 (x0 : PrR) (x1 : PrR) : Prop := x0.a.key = x1.a.key
@[reducible] def q36b_12 (x0 : PrR) (x1 : PrR) : Prop := x0.a.win = x1.a.win
@[reducible] def q36b_13 (x0 : PrR) (x1 : PrR) : Prop := x0.a.life = x1.a.life
@[reducible] def q36b_14 (x0 : PrR) (x1 : PrR) : Prop := x0.a.rto = x1.a.rto
@[reducible] def q36b_15 (x0 : PrR) (x1 : PrR) : Prop := x0.a.tries = x1.a.tries
@[reducible] def q36b_16 (x0 : PrR) (x1 : PrR) : Prop := x0.a.st = x1.a.st
@[reducible] def q36b_17 (x0 : PrR) (x1 : PrR) : Prop := x0.a.mt = x1.a.mt
@[reducible] def q36b_18 (x0 : PrR) (x1 : PrR) : Prop := x0.a.pt = x1.a.pt
@[reducible] def q36b_19 (x0 : PrR) (x1 : PrR) : Prop := x0.a.ms = x1.a.ms
@[reducible] def q36b_20 (x0 : PrR) (x1 : PrR) : Prop := x0.a.ps = x1.a.ps
@[reducible] def q36b_21 (x0 : PrR) (x1 : PrR) : Prop := x0.a.ltag = x1.a.ltag
@[reducible] def q36b_22 (x0 : PrR) (x1 : PrR) : Prop := x0.a.lch.t = x1.a.lch.t
@[reducible] def q36b_23 (x0 : PrR) (x1 : PrR) : Prop := x0.a.lch.f = x1.a.lch.f
@[reducible] def q36b_24 (x0 : PrR) (x1 : PrR) : Prop := x0.a.lch.v = x1.a.lch.v
@[reducible] def q36b_25 (x0 : PrR) (x1 : PrR) : Prop := x0.a.set = x1.a.set
@[reducible] def q36b_26 (x0 : PrR) (x1 : PrR) : Prop := x0.a.at_ = x1.a.at_
@[reducible] def q36b_27 (x0 : PrR) (x1 : PrR) : Prop := x0.a.left = x1.a.left
@[reducible] def q36b_28 (x0 : PrR) (x1 : PrR) : Prop := x0.b.key = x1.b.key
@[reducible] def q36b_29 (x0 : PrR) (x1 : PrR) : Prop := x0.b.win = x1.b.win
@[reducible] def q36b_30 (x0 : PrR) (x1 : PrR) : Prop := x0.b.life = x1.b.life
@[reducible] def q36b_31 (x0 : PrR) (x1 : PrR) : Prop := x0.b.rto = x1.b.rto
@[reducible] def q36b_32 (x0 : PrR) (x1 : PrR) : Prop := x0.b.tries = x1.b.tries
@[reducible] def q36b_33 (x0 : PrR) (x1 : PrR) : Prop := x0.b.st = x1.b.st
@[reducible] def q36b_34 (x0 : PrR) (x1 : PrR) : Prop := x0.b.mt = x1.b.mt
@[reducible] def q36b_35 (x0 : PrR) (x1 : PrR) : Prop := x0.b.pt = x1.b.pt
@[reducible] def q36b_36 (x0 : PrR) (x1 : PrR) : Prop := x0.b.ms = x1.b.ms
@[reducible] def q36b_37 (x0 : PrR) (x1 : PrR) : Prop := x0.b.ps = x1.b.ps
@[reducible] def q36b_38 (x0 : PrR) (x1 : PrR) : Prop := x0.b.ltag = x1.b.ltag
@[reducible] def q36b_39 (x0 : PrR) (x1 : PrR) : Prop := x0.b.lch.t = x1.b.lch.t
@[reducible] def q36b_40 (x0 : PrR) (x1 : PrR) : Prop := x0.b.lch.f = x1.b.lch.f
@[reducible] def q36b_41 (x0 : PrR) (x1 : PrR) : Prop := x0.b.lch.v = x1.b.lch.v
@[reducible] def q36b_42 (x0 : PrR) (x1 : PrR) : Prop := x0.b.set = x1.b.set
@[reducible] def q36b_43 (x0 : PrR) (x1 : PrR) : Prop := x0.b.at_ = x1.b.at_
@[reducible] def q36b_44 (x0 : PrR) (x1 : PrR) : Prop := x0.b.left = x1.b.left
@[reducible] def q36b_45 : Prop := (0 : Nat) = (0 : Nat) ∧ ∀ (i : Nat), i < (0 : Nat) → ∀ (j : Nat), j < (4 : Nat) → ltrCell noOut.pk i j = ltrCell noOut.pk i j
@[reducible] def q36b_46 : Prop := noOut.ev = noOut.ev
@[reducible] def q36b_47 (x0 : PrR) (x1 : PrR) : Prop := q36b_2 x0 = q36b_2 x1 ∧ ∀ (i : Nat), i < q36b_2 x0 → ∀ (j : Nat), j < (4 : Nat) → ltrCell x0.v i j = ltrCell x1.v i j
@[reducible] def q36b_48 : Prop := false = false
@[reducible] def q36b_86 (x0 : PrR) (x1 : PrR) : Prop := x0.now = x1.now ∧ x0.draw = x1.draw ∧ q36b_48 ∧ x0.u = x1.u ∧ x0.t = x1.t ∧ (true && true && true) = true
@[reducible] def q36b_87 (x0 : Int) (x1 : PrR) (x2 : PrR) : Prop := ((0 : Int) ≤ x0.tmod (q36b_6 x1) ∧ x0.tmod (q36b_6 x1) ≤ q36b_6 x1) ∧ q36b_5 ∧ True ∧
  ((0 : Int) ≤ IntKind.i64.wrap (x0.tmod (q36b_6 x1) + (1 : Int)) ∧ IntKind.i64.wrap (x0.tmod (q36b_6 x1) + (1 : Int)) ≤ q36b_6 x1) ∧ ((True ∧ ((0 : Nat) + (x0.tmod (q36b_6 x1)).toNat) * q36b_10.bytes ≤ (140737488355328 : Nat) ∧
  (True ∧ ((0 : Nat) + (x0.tmod (q36b_6 x1)).toNat + (q36b_0 x1 - (IntKind.i64.wrap (x0.tmod (q36b_6 x1) + (1 : Int))).toNat)) * q36b_10.bytes ≤ (140737488355328 : Nat) ∧
  q36b_5 ∧ (q36b_11 x1 x2 ∧ q36b_12 x1 x2 ∧ q36b_13 x1 x2 ∧ q36b_14 x1 x2 ∧ q36b_15 x1 x2 ∧ q36b_16 x1 x2 ∧ q36b_17 x1 x2 ∧ q36b_18 x1 x2 ∧ q36b_19 x1 x2 ∧
  q36b_20 x1 x2 ∧ q36b_21 x1 x2 ∧ q36b_22 x1 x2 ∧ q36b_23 x1 x2 ∧ q36b_24 x1 x2 ∧ q36b_25 x1 x2 ∧ q36b_26 x1 x2 ∧ q36b_27 x1 x2 ∧ q36b_28 x1 x2 ∧ q36b_29 x1 x2 ∧
  q36b_30 x1 x2 ∧ q36b_31 x1 x2 ∧ q36b_32 x1 x2 ∧ q36b_33 x1 x2 ∧ q36b_34 x1 x2 ∧ q36b_35 x1 x2 ∧ q36b_36 x1 x2 ∧ q36b_37 x1 x2 ∧ q36b_38 x1 x2 ∧ q36b_39 x1 x2 ∧
  q36b_40 x1 x2 ∧ q36b_41 x1 x2 ∧ q36b_42 x1 x2 ∧ q36b_43 x1 x2 ∧ q36b_44 x1 x2 ∧ q36b_11 x1 x2 ∧ q36b_12 x1 x2 ∧ q36b_13 x1 x2 ∧ q36b_14 x1 x2 ∧ q36b_15 x1 x2 ∧
  q36b_21 x1 x2 ∧ q36b_22 x1 x2 ∧ q36b_23 x1 x2 ∧ q36b_24 x1 x2 ∧ q36b_26 x1 x2 ∧ q36b_27 x1 x2 ∧ q36b_25 x1 x2 ∧ q36b_16 x1 x2 ∧ q36b_17 x1 x2 ∧ q36b_19 x1 x2 ∧
  q36b_18 x1 x2 ∧ q36b_20 x1 x2 ∧ q36b_45 ∧ q36b_46 ∧ q36b_28 x1 x2 ∧ q36b_29 x1 x2 ∧ q36b_30 x1 x2 ∧ q36b_31 x1 x2 ∧ q36b_32 x1 x2 ∧ q36b_38 x1 x2 ∧ q36b_39 x1 x2 ∧
  q36b_40 x1 x2 ∧ q36b_41 x1 x2 ∧ q36b_43 x1 x2 ∧ q36b_44 x1 x2 ∧ q36b_42 x1 x2 ∧ q36b_33 x1 x2 ∧ q36b_34 x1 x2 ∧ q36b_36 x1 x2 ∧ q36b_35 x1 x2 ∧ q36b_37 x1 x2 ∧
  q36b_45 ∧ q36b_46 ∧ q36b_47 x1 x2 ∧ ((0 : Nat) + (x0.tmod (q36b_6 x1)).toNat + (q36b_0 x1 - (IntKind.i64.wrap (x0.tmod (q36b_6 x1) + (1 : Int))).toNat) = q36b_0 x2 ∧
  ∀ (i : Nat), i < (0 : Nat) + (x0.tmod (q36b_6 x1)).toNat + (q36b_0 x1 - (IntKind.i64.wrap (x0.tmod (q36b_6 x1) + (1 : Int))).toNat) → ∀ (j : Nat), j < q36b_10.size →
  (bif i.blt ((0 : Nat) + (x0.tmod (q36b_6 x1)).toNat) then ltrCell x1.w (i - (0 : Nat)) j else ltrCell x1.w ((IntKind.i64.wrap (x0.tmod (q36b_6 x1) + (1 : Int))).toNat + (i - ((0 : Nat) + (x0.tmod (q36b_6 x1)).toNat))) j) = ltrCell x2.w i j) ∧
  q36b_86 x1 x2) ∧ True) ∧ True) ∧ True) ∧ True
@[reducible] def q36b_88 (x0 : PrR) (x1 : PrR) : Prop := q36b_0 x0 = q36b_0 x1 ∧ ∀ (i : Nat), i < q36b_0 x0 → ∀ (j : Nat), j < (4 : Nat) → ltrCell x0.w i j = ltrCell x1.w i j
@[reducible] def q36b_98 (x0 : PrR) (x1 : PrR) : Prop := q36b_11 x0 x1 ∧ q36b_12 x0 x1 ∧ q36b_13 x0 x1 ∧ q36b_14 x0 x1 ∧ q36b_15 x0 x1 ∧ q36b_16 x0 x1 ∧
  q36b_17 x0 x1 ∧ q36b_18 x0 x1 ∧ q36b_19 x0 x1 ∧ q36b_20 x0 x1 ∧ q36b_21 x0 x1 ∧ q36b_22 x0 x1 ∧ q36b_23 x0 x1 ∧ q36b_24 x0 x1 ∧ q36b_25 x0 x1 ∧ q36b_26 x0 x1 ∧
  q36b_27 x0 x1 ∧ q36b_28 x0 x1 ∧ q36b_29 x0 x1 ∧ q36b_30 x0 x1 ∧ q36b_31 x0 x1 ∧ q36b_32 x0 x1 ∧ q36b_33 x0 x1 ∧ q36b_34 x0 x1 ∧ q36b_35 x0 x1 ∧ q36b_36 x0 x1 ∧
  q36b_37 x0 x1 ∧ q36b_38 x0 x1 ∧ q36b_39 x0 x1 ∧ q36b_40 x0 x1 ∧ q36b_41 x0 x1 ∧ q36b_42 x0 x1 ∧ q36b_43 x0 x1 ∧ q36b_44 x0 x1 ∧ q36b_11 x0 x1 ∧ q36b_12 x0 x1 ∧
  q36b_13 x0 x1 ∧ q36b_14 x0 x1 ∧ q36b_15 x0 x1 ∧ q36b_21 x0 x1 ∧ q36b_22 x0 x1 ∧ q36b_23 x0 x1 ∧ q36b_24 x0 x1 ∧ q36b_26 x0 x1 ∧ q36b_27 x0 x1 ∧ q36b_25 x0 x1 ∧
  q36b_16 x0 x1 ∧ q36b_17 x0 x1 ∧ q36b_19 x0 x1 ∧ q36b_18 x0 x1 ∧ q36b_20 x0 x1 ∧ q36b_45 ∧ q36b_46 ∧ q36b_28 x0 x1 ∧ q36b_29 x0 x1 ∧ q36b_30 x0 x1 ∧ q36b_31 x0 x1 ∧
  q36b_32 x0 x1 ∧ q36b_38 x0 x1 ∧ q36b_39 x0 x1 ∧ q36b_40 x0 x1 ∧ q36b_41 x0 x1 ∧ q36b_43 x0 x1 ∧ q36b_44 x0 x1 ∧ q36b_42 x0 x1 ∧ q36b_33 x0 x1 ∧ q36b_34 x0 x1 ∧
  q36b_36 x0 x1 ∧ q36b_35 x0 x1 ∧ q36b_37 x0 x1 ∧ q36b_45 ∧ q36b_46 ∧ q36b_47 x0 x1 ∧ q36b_88 x0 x1 ∧ x0.now = x1.now ∧ x0.draw = x1.draw ∧ q36b_48 ∧ x0.u = x1.u ∧
  x0.t = x1.t ∧ (true && true && true) = true
@[reducible] noncomputable def q36b_99 : Int := IntKind.i64.wrap ((0 : Int) + (1 : Int))
@[reducible] def q36b_100 (x0 : PrR) (x1 : PrR) : Prop := True ∧ True ∧ q36b_5 ∧ True ∧ sw (q36b_7 x0) (q36b_5 ∧ (q36b_5 ∧ True ∧ False ∨ ((0 : Int) ≤ (0 : Int) ∧
  (0 : Int) ≤ q36b_6 x0) ∧ q36b_5 ∧ True ∧ ((0 : Int) ≤ q36b_99 ∧ q36b_99 ≤ q36b_6 x0) ∧ ((True ∧ (0 : Nat) ≤ (140737488355328 : Nat) ∧ (True ∧ ((0 : Nat) + (q36b_0 x0 - q36b_99.toNat)) * q36b_10.bytes ≤ (140737488355328 : Nat) ∧
  q36b_5 ∧ (q36b_11 x0 x1 ∧ q36b_12 x0 x1 ∧ q36b_13 x0 x1 ∧ q36b_14 x0 x1 ∧ q36b_15 x0 x1 ∧ q36b_16 x0 x1 ∧ q36b_17 x0 x1 ∧ q36b_18 x0 x1 ∧ q36b_19 x0 x1 ∧
  q36b_20 x0 x1 ∧ q36b_21 x0 x1 ∧ q36b_22 x0 x1 ∧ q36b_23 x0 x1 ∧ q36b_24 x0 x1 ∧ q36b_25 x0 x1 ∧ q36b_26 x0 x1 ∧ q36b_27 x0 x1 ∧ q36b_28 x0 x1 ∧ q36b_29 x0 x1 ∧
  q36b_30 x0 x1 ∧ q36b_31 x0 x1 ∧ q36b_32 x0 x1 ∧ q36b_33 x0 x1 ∧ q36b_34 x0 x1 ∧ q36b_35 x0 x1 ∧ q36b_36 x0 x1 ∧ q36b_37 x0 x1 ∧ q36b_38 x0 x1 ∧ q36b_39 x0 x1 ∧
  q36b_40 x0 x1 ∧ q36b_41 x0 x1 ∧ q36b_42 x0 x1 ∧ q36b_43 x0 x1 ∧ q36b_44 x0 x1 ∧ q36b_11 x0 x1 ∧ q36b_12 x0 x1 ∧ q36b_13 x0 x1 ∧ q36b_14 x0 x1 ∧ q36b_15 x0 x1 ∧
  q36b_21 x0 x1 ∧ q36b_22 x0 x1 ∧ q36b_23 x0 x1 ∧ q36b_24 x0 x1 ∧ q36b_26 x0 x1 ∧ q36b_27 x0 x1 ∧ q36b_25 x0 x1 ∧ q36b_16 x0 x1 ∧ q36b_17 x0 x1 ∧ q36b_19 x0 x1 ∧
  q36b_18 x0 x1 ∧ q36b_20 x0 x1 ∧ q36b_45 ∧ q36b_46 ∧ q36b_28 x0 x1 ∧ q36b_29 x0 x1 ∧ q36b_30 x0 x1 ∧ q36b_31 x0 x1 ∧ q36b_32 x0 x1 ∧ q36b_38 x0 x1 ∧ q36b_39 x0 x1 ∧
  q36b_40 x0 x1 ∧ q36b_41 x0 x1 ∧ q36b_43 x0 x1 ∧ q36b_44 x0 x1 ∧ q36b_42 x0 x1 ∧ q36b_33 x0 x1 ∧ q36b_34 x0 x1 ∧ q36b_36 x0 x1 ∧ q36b_35 x0 x1 ∧ q36b_37 x0 x1 ∧
  q36b_45 ∧ q36b_46 ∧ q36b_47 x0 x1 ∧ ((0 : Nat) + (q36b_0 x0 - q36b_99.toNat) = q36b_0 x1 ∧ ∀ (i : Nat), i < (0 : Nat) + (q36b_0 x0 - q36b_99.toNat) → ∀ (j : Nat), j < q36b_10.size →
  ltrCell x0.w (q36b_99.toNat + (i - (0 : Nat))) j = ltrCell x1.w i j) ∧ q36b_86 x0 x1) ∧ True) ∧ True) ∧ True) ∧ True)) (q36b_98 x0 x1)
@[reducible] def q36b_101 : Prop := (0 : Int) ≤ (0 : Int) ∧ (0 : Int) < (↑(2 : Nat) : Int)
@[reducible] noncomputable def q36b_102 (x0 : PrR) : Int := (↑(q36b_2 x0) : Int)
@[reducible] noncomputable def q36b_103 (x0 : PrR) : Bool := decide ((0 : Int) < q36b_102 x0)
@[reducible] def q36b_104 (x0 : PrR) (x1 : PrR) : Prop := q36b_88 x0 x1 ∧ x0.now = x1.now ∧ x0.draw = x1.draw ∧ q36b_48 ∧ x0.u = x1.u ∧ x0.t = x1.t ∧ (true && true && true) = true
@[reducible] def q36b_105 (x0 : Int) (x1 : PrR) (x2 : PrR) : Prop := ((0 : Int) ≤ x0.tmod (q36b_102 x1) ∧ x0.tmod (q36b_102 x1) ≤ q36b_102 x1) ∧ q36b_101 ∧
  True ∧ ((0 : Int) ≤ IntKind.i64.wrap (x0.tmod (q36b_102 x1) + (1 : Int)) ∧ IntKind.i64.wrap (x0.tmod (q36b_102 x1) + (1 : Int)) ≤ q36b_102 x1) ∧ ((True ∧
  ((0 : Nat) + (x0.tmod (q36b_102 x1)).toNat) * q36b_10.bytes ≤ (140737488355328 : Nat) ∧ (True ∧ ((0 : Nat) + (x0.tmod (q36b_102 x1)).toNat + (q36b_2 x1 - (IntKind.i64.wrap (x0.tmod (q36b_102 x1) + (1 : Int))).toNat)) * q36b_10.bytes ≤ (140737488355328 : Nat) ∧
  q36b_101 ∧ (q36b_11 x1 x2 ∧ q36b_12 x1 x2 ∧ q36b_13 x1 x2 ∧ q36b_14 x1 x2 ∧ q36b_15 x1 x2 ∧ q36b_16 x1 x2 ∧ q36b_17 x1 x2 ∧ q36b_18 x1 x2 ∧ q36b_19 x1 x2 ∧
  q36b_20 x1 x2 ∧ q36b_21 x1 x2 ∧ q36b_22 x1 x2 ∧ q36b_23 x1 x2 ∧ q36b_24 x1 x2 ∧ q36b_25 x1 x2 ∧ q36b_26 x1 x2 ∧ q36b_27 x1 x2 ∧ q36b_28 x1 x2 ∧ q36b_29 x1 x2 ∧
  q36b_30 x1 x2 ∧ q36b_31 x1 x2 ∧ q36b_32 x1 x2 ∧ q36b_33 x1 x2 ∧ q36b_34 x1 x2 ∧ q36b_35 x1 x2 ∧ q36b_36 x1 x2 ∧ q36b_37 x1 x2 ∧ q36b_38 x1 x2 ∧ q36b_39 x1 x2 ∧
  q36b_40 x1 x2 ∧ q36b_41 x1 x2 ∧ q36b_42 x1 x2 ∧ q36b_43 x1 x2 ∧ q36b_44 x1 x2 ∧ q36b_11 x1 x2 ∧ q36b_12 x1 x2 ∧ q36b_13 x1 x2 ∧ q36b_14 x1 x2 ∧ q36b_15 x1 x2 ∧
  q36b_21 x1 x2 ∧ q36b_22 x1 x2 ∧ q36b_23 x1 x2 ∧ q36b_24 x1 x2 ∧ q36b_26 x1 x2 ∧ q36b_27 x1 x2 ∧ q36b_25 x1 x2 ∧ q36b_16 x1 x2 ∧ q36b_17 x1 x2 ∧ q36b_19 x1 x2 ∧
  q36b_18 x1 x2 ∧ q36b_20 x1 x2 ∧ q36b_45 ∧ q36b_46 ∧ q36b_28 x1 x2 ∧ q36b_29 x1 x2 ∧ q36b_30 x1 x2 ∧ q36b_31 x1 x2 ∧ q36b_32 x1 x2 ∧ q36b_38 x1 x2 ∧ q36b_39 x1 x2 ∧
  q36b_40 x1 x2 ∧ q36b_41 x1 x2 ∧ q36b_43 x1 x2 ∧ q36b_44 x1 x2 ∧ q36b_42 x1 x2 ∧ q36b_33 x1 x2 ∧ q36b_34 x1 x2 ∧ q36b_36 x1 x2 ∧ q36b_35 x1 x2 ∧ q36b_37 x1 x2 ∧
  q36b_45 ∧ q36b_46 ∧ ((0 : Nat) + (x0.tmod (q36b_102 x1)).toNat + (q36b_2 x1 - (IntKind.i64.wrap (x0.tmod (q36b_102 x1) + (1 : Int))).toNat) = q36b_2 x2 ∧
  ∀ (i : Nat), i < (0 : Nat) + (x0.tmod (q36b_102 x1)).toNat + (q36b_2 x1 - (IntKind.i64.wrap (x0.tmod (q36b_102 x1) + (1 : Int))).toNat) → ∀ (j : Nat), j < q36b_10.size →
  (bif i.blt ((0 : Nat) + (x0.tmod (q36b_102 x1)).toNat) then ltrCell x1.v (i - (0 : Nat)) j else ltrCell x1.v ((IntKind.i64.wrap (x0.tmod (q36b_102 x1) + (1 : Int))).toNat + (i - ((0 : Nat) + (x0.tmod (q36b_102 x1)).toNat))) j) = ltrCell x2.v i j) ∧
  q36b_104 x1 x2) ∧ True) ∧ True) ∧ True) ∧ True
@[reducible] def q36b_106 (x0 : PrR) (x1 : PrR) : Prop := True ∧ True ∧ q36b_101 ∧ True ∧ sw (q36b_103 x0) (q36b_101 ∧ (q36b_101 ∧ True ∧ False ∨ ((0 : Int) ≤ (0 : Int) ∧
  (0 : Int) ≤ q36b_102 x0) ∧ q36b_101 ∧ True ∧ ((0 : Int) ≤ q36b_99 ∧ q36b_99 ≤ q36b_102 x0) ∧ ((True ∧ (0 : Nat) ≤ (140737488355328 : Nat) ∧ (True ∧ ((0 : Nat) + (q36b_2 x0 - q36b_99.toNat)) * q36b_10.bytes ≤ (140737488355328 : Nat) ∧
  q36b_101 ∧ (q36b_11 x0 x1 ∧ q36b_12 x0 x1 ∧ q36b_13 x0 x1 ∧ q36b_14 x0 x1 ∧ q36b_15 x0 x1 ∧ q36b_16 x0 x1 ∧ q36b_17 x0 x1 ∧ q36b_18 x0 x1 ∧ q36b_19 x0 x1 ∧
  q36b_20 x0 x1 ∧ q36b_21 x0 x1 ∧ q36b_22 x0 x1 ∧ q36b_23 x0 x1 ∧ q36b_24 x0 x1 ∧ q36b_25 x0 x1 ∧ q36b_26 x0 x1 ∧ q36b_27 x0 x1 ∧ q36b_28 x0 x1 ∧ q36b_29 x0 x1 ∧
  q36b_30 x0 x1 ∧ q36b_31 x0 x1 ∧ q36b_32 x0 x1 ∧ q36b_33 x0 x1 ∧ q36b_34 x0 x1 ∧ q36b_35 x0 x1 ∧ q36b_36 x0 x1 ∧ q36b_37 x0 x1 ∧ q36b_38 x0 x1 ∧ q36b_39 x0 x1 ∧
  q36b_40 x0 x1 ∧ q36b_41 x0 x1 ∧ q36b_42 x0 x1 ∧ q36b_43 x0 x1 ∧ q36b_44 x0 x1 ∧ q36b_11 x0 x1 ∧ q36b_12 x0 x1 ∧ q36b_13 x0 x1 ∧ q36b_14 x0 x1 ∧ q36b_15 x0 x1 ∧
  q36b_21 x0 x1 ∧ q36b_22 x0 x1 ∧ q36b_23 x0 x1 ∧ q36b_24 x0 x1 ∧ q36b_26 x0 x1 ∧ q36b_27 x0 x1 ∧ q36b_25 x0 x1 ∧ q36b_16 x0 x1 ∧ q36b_17 x0 x1 ∧ q36b_19 x0 x1 ∧
  q36b_18 x0 x1 ∧ q36b_20 x0 x1 ∧ q36b_45 ∧ q36b_46 ∧ q36b_28 x0 x1 ∧ q36b_29 x0 x1 ∧ q36b_30 x0 x1 ∧ q36b_31 x0 x1 ∧ q36b_32 x0 x1 ∧ q36b_38 x0 x1 ∧ q36b_39 x0 x1 ∧
  q36b_40 x0 x1 ∧ q36b_41 x0 x1 ∧ q36b_43 x0 x1 ∧ q36b_44 x0 x1 ∧ q36b_42 x0 x1 ∧ q36b_33 x0 x1 ∧ q36b_34 x0 x1 ∧ q36b_36 x0 x1 ∧ q36b_35 x0 x1 ∧ q36b_37 x0 x1 ∧
  q36b_45 ∧ q36b_46 ∧ ((0 : Nat) + (q36b_2 x0 - q36b_99.toNat) = q36b_2 x1 ∧ ∀ (i : Nat), i < (0 : Nat) + (q36b_2 x0 - q36b_99.toNat) → ∀ (j : Nat), j < q36b_10.size →
  ltrCell x0.v (q36b_99.toNat + (i - (0 : Nat))) j = ltrCell x1.v i j) ∧ q36b_104 x0 x1) ∧ True) ∧ True) ∧ True) ∧ True)) (q36b_98 x0 x1)
@[reducible] noncomputable def q36b_107 (x0 : PrR) (x1 : Int) : ChR := (x0.w.getD (x1.tmod (q36b_6 x0)).toNat noLtr).ch
@[reducible] def q36b_108 (x0 : PrR) (x1 : PrR) : Prop := x0.now = x1.now ∧ x0.draw = x1.draw ∧ q36b_48 ∧ x0.u = x1.u ∧ x0.t = x1.t ∧ (true && true && true) = true
@[reducible] noncomputable def q36b_109 (x0 : PrR) : ChR := (x0.w.getD (Int.toNat (0 : Int)) noLtr).ch
@[reducible] def q36b_110 (x0 : PrR) (x1 : PrR) : Prop := True ∧ True ∧ True ∧ q36b_5 ∧ True ∧ sw (q36b_7 x0) (q36b_5 ∧ True ∧ sw (decide (q36b_6 x0 < (40 : Int))) (q36b_5 ∧
  q36b_5 ∧ ((0 : Int) ≤ (0 : Int) ∧ (0 : Int) < q36b_6 x0) ∧ ((True ∧ (q36b_0 x0 + (1 : Nat)) * q36b_10.bytes ≤ (140737488355328 : Nat) ∧ q36b_5 ∧ (q36b_11 x0 x1 ∧
  q36b_12 x0 x1 ∧ q36b_13 x0 x1 ∧ q36b_14 x0 x1 ∧ q36b_15 x0 x1 ∧ q36b_16 x0 x1 ∧ q36b_17 x0 x1 ∧ q36b_18 x0 x1 ∧ q36b_19 x0 x1 ∧ q36b_20 x0 x1 ∧ q36b_21 x0 x1 ∧
  q36b_22 x0 x1 ∧ q36b_23 x0 x1 ∧ q36b_24 x0 x1 ∧ q36b_25 x0 x1 ∧ q36b_26 x0 x1 ∧ q36b_27 x0 x1 ∧ q36b_28 x0 x1 ∧ q36b_29 x0 x1 ∧ q36b_30 x0 x1 ∧ q36b_31 x0 x1 ∧
  q36b_32 x0 x1 ∧ q36b_33 x0 x1 ∧ q36b_34 x0 x1 ∧ q36b_35 x0 x1 ∧ q36b_36 x0 x1 ∧ q36b_37 x0 x1 ∧ q36b_38 x0 x1 ∧ q36b_39 x0 x1 ∧ q36b_40 x0 x1 ∧ q36b_41 x0 x1 ∧
  q36b_42 x0 x1 ∧ q36b_43 x0 x1 ∧ q36b_44 x0 x1 ∧ q36b_11 x0 x1 ∧ q36b_12 x0 x1 ∧ q36b_13 x0 x1 ∧ q36b_14 x0 x1 ∧ q36b_15 x0 x1 ∧ q36b_21 x0 x1 ∧ q36b_22 x0 x1 ∧
  q36b_23 x0 x1 ∧ q36b_24 x0 x1 ∧ q36b_26 x0 x1 ∧ q36b_27 x0 x1 ∧ q36b_25 x0 x1 ∧ q36b_16 x0 x1 ∧ q36b_17 x0 x1 ∧ q36b_19 x0 x1 ∧ q36b_18 x0 x1 ∧ q36b_20 x0 x1 ∧
  q36b_45 ∧ q36b_46 ∧ q36b_28 x0 x1 ∧ q36b_29 x0 x1 ∧ q36b_30 x0 x1 ∧ q36b_31 x0 x1 ∧ q36b_32 x0 x1 ∧ q36b_38 x0 x1 ∧ q36b_39 x0 x1 ∧ q36b_40 x0 x1 ∧ q36b_41 x0 x1 ∧
  q36b_43 x0 x1 ∧ q36b_44 x0 x1 ∧ q36b_42 x0 x1 ∧ q36b_33 x0 x1 ∧ q36b_34 x0 x1 ∧ q36b_36 x0 x1 ∧ q36b_35 x0 x1 ∧ q36b_37 x0 x1 ∧ q36b_45 ∧ q36b_46 ∧ q36b_47 x0 x1 ∧
  (q36b_0 x0 + (1 : Nat) = q36b_0 x1 ∧ ∀ (i : Nat), i < q36b_0 x0 + (1 : Nat) → ∀ (j : Nat), j < (4 : Nat) → (bif i.blt (q36b_0 x0) then ltrCell x0.w i j else [D.v (Value.int IntKind.u32 (x0.w.getD (Int.toNat (0 : Int)) noLtr).tag), D.v (Value.int IntKind.u8 (q36b_109 x0).t), D.v (Value.int IntKind.u8 (q36b_109 x0).f), D.ints IntKind.u8 (q36b_109 x0).v].getD ((i - q36b_0 x0) * q36b_10.size + j) (D.v undef)) = ltrCell x1.w i j) ∧
  q36b_108 x0 x1) ∧ True) ∧ True) ∧ True) (q36b_98 x0 x1)) (q36b_98 x0 x1)
@[reducible] noncomputable def q36b_111 (x0 : PrR) (x1 : Int) : ChR := (x0.v.getD (x1.tmod (q36b_102 x0)).toNat noLtr).ch
@[reducible] def q36b_112 (x0 : PrR) (x1 : PrR) : Prop := q36b_88 x0 x1 ∧ x0.now = x1.now ∧ x0.draw = x1.draw ∧ q36b_48 ∧ x0.u = x1.u ∧ x0.t = x1.t ∧ (true && true && true) = true
@[reducible] noncomputable def q36b_113 (x0 : PrR) : ChR := (x0.v.getD (Int.toNat (0 : Int)) noLtr).ch
@[reducible] def q36b_114 (x0 : PrR) (x1 : PrR) : Prop := True ∧ True ∧ True ∧ q36b_101 ∧ True ∧ sw (q36b_103 x0) (q36b_101 ∧ True ∧ sw (decide (q36b_102 x0 < (40 : Int))) (q36b_101 ∧
  q36b_101 ∧ ((0 : Int) ≤ (0 : Int) ∧ (0 : Int) < q36b_102 x0) ∧ ((True ∧ (q36b_2 x0 + (1 : Nat)) * q36b_10.bytes ≤ (140737488355328 : Nat) ∧ q36b_101 ∧ (q36b_11 x0 x1 ∧
  q36b_12 x0 x1 ∧ q36b_13 x0 x1 ∧ q36b_14 x0 x1 ∧ q36b_15 x0 x1 ∧ q36b_16 x0 x1 ∧ q36b_17 x0 x1 ∧ q36b_18 x0 x1 ∧ q36b_19 x0 x1 ∧ q36b_20 x0 x1 ∧ q36b_21 x0 x1 ∧
  q36b_22 x0 x1 ∧ q36b_23 x0 x1 ∧ q36b_24 x0 x1 ∧ q36b_25 x0 x1 ∧ q36b_26 x0 x1 ∧ q36b_27 x0 x1 ∧ q36b_28 x0 x1 ∧ q36b_29 x0 x1 ∧ q36b_30 x0 x1 ∧ q36b_31 x0 x1 ∧
  q36b_32 x0 x1 ∧ q36b_33 x0 x1 ∧ q36b_34 x0 x1 ∧ q36b_35 x0 x1 ∧ q36b_36 x0 x1 ∧ q36b_37 x0 x1 ∧ q36b_38 x0 x1 ∧ q36b_39 x0 x1 ∧ q36b_40 x0 x1 ∧ q36b_41 x0 x1 ∧
  q36b_42 x0 x1 ∧ q36b_43 x0 x1 ∧ q36b_44 x0 x1 ∧ q36b_11 x0 x1 ∧ q36b_12 x0 x1 ∧ q36b_13 x0 x1 ∧ q36b_14 x0 x1 ∧ q36b_15 x0 x1 ∧ q36b_21 x0 x1 ∧ q36b_22 x0 x1 ∧
  q36b_23 x0 x1 ∧ q36b_24 x0 x1 ∧ q36b_26 x0 x1 ∧ q36b_27 x0 x1 ∧ q36b_25 x0 x1 ∧ q36b_16 x0 x1 ∧ q36b_17 x0 x1 ∧ q36b_19 x0 x1 ∧ q36b_18 x0 x1 ∧ q36b_20 x0 x1 ∧
  q36b_45 ∧ q36b_46 ∧ q36b_28 x0 x1 ∧ q36b_29 x0 x1 ∧ q36b_30 x0 x1 ∧ q36b_31 x0 x1 ∧ q36b_32 x0 x1 ∧ q36b_38 x0 x1 ∧ q36b_39 x0 x1 ∧ q36b_40 x0 x1 ∧ q36b_41 x0 x1 ∧
  q36b_43 x0 x1 ∧ q36b_44 x0 x1 ∧ q36b_42 x0 x1 ∧ q36b_33 x0 x1 ∧ q36b_34 x0 x1 ∧ q36b_36 x0 x1 ∧ q36b_35 x0 x1 ∧ q36b_37 x0 x1 ∧ q36b_45 ∧ q36b_46 ∧ (q36b_2 x0 + (1 : Nat) = q36b_2 x1 ∧
  ∀ (i : Nat), i < q36b_2 x0 + (1 : Nat) → ∀ (j : Nat), j < (4 : Nat) → (bif i.blt (q36b_2 x0) then ltrCell x0.v i j else [D.v (Value.int IntKind.u32 (x0.v.getD (Int.toNat (0 : Int)) noLtr).tag), D.v (Value.int IntKind.u8 (q36b_113 x0).t), D.v (Value.int IntKind.u8 (q36b_113 x0).f), D.ints IntKind.u8 (q36b_113 x0).v].getD ((i - q36b_2 x0) * q36b_10.size + j) (D.v undef)) = ltrCell x1.v i j) ∧
  q36b_112 x0 x1) ∧ True) ∧ True) ∧ True) (q36b_98 x0 x1)) (q36b_98 x0 x1)
@[reducible] noncomputable def q36b_115 (x0 : PrR) : Int := IntKind.i64.wrap (x0.now + (1 : Int))
@[reducible] noncomputable def q36b_116 : List O := [O.own 142 (D.recs 4 (0 : Nat) (ltrCell noOut.pk)), O.own 3 (D.ints IntKind.i64 noOut.ev)]
@[reducible] noncomputable def q36b_117 (x0 : PrR) : O := O.ptr 148 (iO .u64 x0.b.key :: iO .u32 x0.b.win :: iO .i64 x0.b.life :: iO .i64 x0.b.rto :: iO .i64 x0.b.tries :: iO .u32 x0.b.ltag :: iO .u8 x0.b.lch.t :: iO .u8 x0.b.lch.f :: O.d (D.ints IntKind.u8 x0.b.lch.v) :: iO .i64 x0.b.at_ :: iO .i64 x0.b.left :: O.d (D.v (Value.bool x0.b.set)) :: iO .i64 x0.b.st :: iO .u32 x0.b.mt :: iO .u32 x0.b.ms :: iO .u32 x0.b.pt :: iO .u32 x0.b.ps :: q36b_116)
@[reducible] noncomputable def q36b_118 (x0 : PrR) : List O := [iO .i64 (q36b_115 x0)]
@[reducible] noncomputable def q36b_119 (x0 : AsR) (x1 : Int) : List O := [O.ptr 148 (iO .u64 x0.key :: iO .u32 x0.win :: iO .i64 x0.life :: iO .i64 x0.rto :: iO .i64 x0.tries :: iO .u32 x0.ltag :: iO .u8 x0.lch.t :: iO .u8 x0.lch.f :: O.d (D.ints IntKind.u8 x0.lch.v) :: iO .i64 x0.at_ :: iO .i64 x0.left :: O.d (D.v (Value.bool x0.set)) :: iO .i64 x0.st :: iO .u32 x0.mt :: iO .u32 x0.ms :: iO .u32 x0.pt :: iO .u32 x0.ps :: q36b_116), iO .i64 x1]
@[reducible] noncomputable def q36b_120 (x0 : PrR) : O := O.ptr 152 [iO .u64 x0.b.key, iO .u32 x0.b.win, iO .i64 x0.b.life, iO .i64 x0.b.rto, iO .i64 x0.b.tries, iO .i64 x0.b.st, iO .u32 x0.b.mt, iO .u32 x0.b.pt, iO .u32 x0.b.ms, iO .u32 x0.b.ps, iO .u32 x0.b.ltag, iO .u8 x0.b.lch.t, iO .u8 x0.b.lch.f, O.d (D.ints IntKind.u8 x0.b.lch.v), O.d (D.v (Value.bool x0.b.set)), iO .i64 x0.b.at_, iO .i64 x0.b.left, O.any, O.any]
@[reducible] noncomputable def q36b_121 (x0 : AsR) (x1 : Int) : List O := [O.ptr 152 [iO .u64 x0.key, iO .u32 x0.win, iO .i64 x0.life, iO .i64 x0.rto, iO .i64 x0.tries, iO .i64 x0.st, iO .u32 x0.mt, iO .u32 x0.pt, iO .u32 x0.ms, iO .u32 x0.ps, iO .u32 x0.ltag, iO .u8 x0.lch.t, iO .u8 x0.lch.f, O.d (D.ints IntKind.u8 x0.lch.v), O.d (D.v (Value.bool x0.set)), iO .i64 x0.at_, iO .i64 x0.left, O.any, O.any], iO .i64 x1]
@[reducible] noncomputable def q36b_122 (x0 : PrR) : O := O.ptr 152 [iO .u64 x0.a.key, iO .u32 x0.a.win, iO .i64 x0.a.life, iO .i64 x0.a.rto, iO .i64 x0.a.tries, iO .i64 x0.a.st, iO .u32 x0.a.mt, iO .u32 x0.a.pt, iO .u32 x0.a.ms, iO .u32 x0.a.ps, iO .u32 x0.a.ltag, iO .u8 x0.a.lch.t, iO .u8 x0.a.lch.f, O.d (D.ints IntKind.u8 x0.a.lch.v), O.d (D.v (Value.bool x0.a.set)), iO .i64 x0.a.at_, iO .i64 x0.a.left, O.any, O.any]
@[reducible] noncomputable def q36b_123 (x0 : AsR × OutR) : O := O.ptr 152 [iO .u64 x0.fst.key, iO .u32 x0.fst.win, iO .i64 x0.fst.life, iO .i64 x0.fst.rto, iO .i64 x0.fst.tries, iO .i64 x0.fst.st, iO .u32 x0.fst.mt, iO .u32 x0.fst.pt, iO .u32 x0.fst.ms, iO .u32 x0.fst.ps, iO .u32 x0.fst.ltag, iO .u8 x0.fst.lch.t, iO .u8 x0.fst.lch.f, O.d (D.ints IntKind.u8 x0.fst.lch.v), O.d (D.v (Value.bool x0.fst.set)), iO .i64 x0.fst.at_, iO .i64 x0.fst.left, O.any, O.any]
@[reducible] noncomputable def q36b_124 (x0 : PrR) : O := O.ptr 148 (iO .u64 x0.a.key :: iO .u32 x0.a.win :: iO .i64 x0.a.life :: iO .i64 x0.a.rto :: iO .i64 x0.a.tries :: iO .u32 x0.a.ltag :: iO .u8 x0.a.lch.t :: iO .u8 x0.a.lch.f :: O.d (D.ints IntKind.u8 x0.a.lch.v) :: iO .i64 x0.a.at_ :: iO .i64 x0.a.left :: O.d (D.v (Value.bool x0.a.set)) :: iO .i64 x0.a.st :: iO .u32 x0.a.mt :: iO .u32 x0.a.ms :: iO .u32 x0.a.pt :: iO .u32 x0.a.ps :: q36b_116)
@[reducible] noncomputable def q36b_125 (x0 : AsR × OutR) : O := O.ptr 148 (iO .u64 x0.fst.key :: iO .u32 x0.fst.win :: iO .i64 x0.fst.life :: iO .i64 x0.fst.rto :: iO .i64 x0.fst.tries :: iO .u32 x0.fst.ltag :: iO .u8 x0.fst.lch.t :: iO .u8 x0.fst.lch.f :: O.d (D.ints IntKind.u8 x0.fst.lch.v) :: iO .i64 x0.fst.at_ :: iO .i64 x0.fst.left :: O.d (D.v (Value.bool x0.fst.set)) :: iO .i64 x0.fst.st :: iO .u32 x0.fst.mt :: iO .u32 x0.fst.ms :: iO .u32 x0.fst.pt :: iO .u32 x0.fst.ps :: q36b_116)
@[reducible] noncomputable def q36b_126 (x0 : PrR) : List O := [iO .u32 x0.draw, O.d (D.v (Value.bool false)), O.d (D.v (Value.bool x0.u)), O.d (D.v (Value.bool x0.t))]
@[reducible] noncomputable def q36b_127 (x0 : PrR) : List O := O.own 150 (D.recs 4 (q36b_2 x0) (ltrCell x0.v)) :: O.own 150 (D.recs 4 (q36b_0 x0) (ltrCell x0.w)) :: iO .i64 (q36b_115 x0) :: q36b_126 x0
@[reducible] noncomputable def q36b_128 (x0 : AsR × OutR) : O := O.agg [O.d (D.recs 4 x0.snd.pk.length (ltrCell x0.snd.pk)), O.d (D.ints IntKind.i64 x0.snd.ev)]
@[reducible] noncomputable def q36b_129 (x0 : OutR) : O := O.agg [O.d (D.recs 4 x0.pk.length (ltrCell x0.pk)), O.d (D.ints IntKind.i64 x0.ev)]
@[reducible] noncomputable def q36b_130 (x0 : PrR) (x1 : D) (x2 : D) (x3 : Int) (x4 : OutR) : List O := [O.ptr 59 (q36b_122 x0 :: q36b_120 x0 :: q36b_124 x0 :: q36b_117 x0 :: O.own 150 x1 :: O.own 150 x2 :: iO .i64 x0.now :: q36b_126 x0), iO .i64 x3, q36b_129 x4, q36b_129 x4]
@[reducible] def q36b_131 (x0 : PrR) (x1 : PrR) : Prop := q36b_11 x0 x1 ∧ q36b_12 x0 x1 ∧ q36b_13 x0 x1 ∧ q36b_14 x0 x1 ∧ q36b_15 x0 x1 ∧ q36b_16 x0 x1 ∧
  q36b_17 x0 x1 ∧ q36b_18 x0 x1 ∧ q36b_19 x0 x1 ∧ q36b_20 x0 x1 ∧ q36b_21 x0 x1 ∧ q36b_22 x0 x1 ∧ q36b_23 x0 x1 ∧ q36b_24 x0 x1 ∧ q36b_25 x0 x1 ∧ q36b_26 x0 x1 ∧
  q36b_27 x0 x1 ∧ q36b_28 x0 x1 ∧ q36b_29 x0 x1 ∧ q36b_30 x0 x1 ∧ q36b_31 x0 x1 ∧ q36b_32 x0 x1 ∧ q36b_33 x0 x1 ∧ q36b_34 x0 x1 ∧ q36b_35 x0 x1 ∧ q36b_36 x0 x1 ∧
  q36b_37 x0 x1 ∧ q36b_38 x0 x1 ∧ q36b_39 x0 x1 ∧ q36b_40 x0 x1 ∧ q36b_41 x0 x1 ∧ q36b_42 x0 x1 ∧ q36b_43 x0 x1 ∧ q36b_44 x0 x1 ∧ q36b_11 x0 x1 ∧ q36b_12 x0 x1 ∧
  q36b_13 x0 x1 ∧ q36b_14 x0 x1 ∧ q36b_15 x0 x1 ∧ q36b_21 x0 x1 ∧ q36b_22 x0 x1 ∧ q36b_23 x0 x1 ∧ q36b_24 x0 x1 ∧ q36b_26 x0 x1 ∧ q36b_27 x0 x1 ∧ q36b_25 x0 x1 ∧
  q36b_16 x0 x1 ∧ q36b_17 x0 x1 ∧ q36b_19 x0 x1 ∧ q36b_18 x0 x1 ∧ q36b_20 x0 x1 ∧ q36b_45 ∧ q36b_46 ∧ q36b_28 x0 x1 ∧ q36b_29 x0 x1 ∧ q36b_30 x0 x1 ∧ q36b_31 x0 x1 ∧
  q36b_32 x0 x1 ∧ q36b_38 x0 x1 ∧ q36b_39 x0 x1 ∧ q36b_40 x0 x1 ∧ q36b_41 x0 x1 ∧ q36b_43 x0 x1 ∧ q36b_44 x0 x1 ∧ q36b_42 x0 x1 ∧ q36b_33 x0 x1 ∧ q36b_34 x0 x1 ∧
  q36b_36 x0 x1 ∧ q36b_35 x0 x1 ∧ q36b_37 x0 x1 ∧ q36b_45 ∧ q36b_46 ∧ q36b_47 x0 x1 ∧ q36b_88 x0 x1 ∧ x0.now = x1.now ∧ x0.draw = x1.draw ∧ q36b_48 ∧ x0.u = x1.u ∧
  x0.t = x1.t ∧ (true && true && true) = true
@[reducible] def q36b_132 (x0 : PrR) (x1 : AsR × OutR) (x2 : PrR) (x3 : PrR) : Prop := True ∧ True ∧ True ∧ True ∧ True ∧ True ∧ q36b_5 ∧ q36b_5 ∧ ((∃ (s_1 : AsR), ∃ (w : Int), q36b_117 x0 :: q36b_118 x0 = q36b_119 s_1 w ∧
  okAs s_1 ∧ okNow w) ∧ ((∃ (s_1 : AsR), ∃ (w : Int), q36b_120 x0 :: q36b_118 x0 = q36b_121 s_1 w ∧ okAs s_1 ∧ okNow w) ∧ ((∃ (p_1 : PrR), ∃ (s_1 : Int), ∃ (o : OutR), ∃ (A : D), ∃ (B : D), [O.ptr 59 (q36b_122 x0 :: q36b_123 x1 :: q36b_124 x0 :: q36b_125 x1 :: q36b_127 x0), iO .i64 (1 : Int), q36b_128 x1, q36b_128 x1] = q36b_130 p_1 A B s_1 o ∧
  (s_1 = (0 : Int) ∨ s_1 = (1 : Int)) ∧ asLt A p_1.v ∧ asLt B p_1.w ∧ okP (2000 : Nat) p_1 ∧ okO o) ∧ q36b_131 x2 x3) ∧ True) ∧ True) ∧ True
@[reducible] def q36b_133 (x0 : PrR) (x1 : AsR × OutR) (x2 : PrR) (x3 : PrR) : Prop := True ∧ True ∧ True ∧ True ∧ True ∧ True ∧ q36b_101 ∧ q36b_101 ∧ ((∃ (s_1 : AsR), ∃ (w : Int), q36b_124 x0 :: q36b_118 x0 = q36b_119 s_1 w ∧
  okAs s_1 ∧ okNow w) ∧ ((∃ (s_1 : AsR), ∃ (w : Int), q36b_122 x0 :: q36b_118 x0 = q36b_121 s_1 w ∧ okAs s_1 ∧ okNow w) ∧ ((∃ (p_1 : PrR), ∃ (s_1 : Int), ∃ (o : OutR), ∃ (A : D), ∃ (B : D), [O.ptr 59 (q36b_123 x1 :: q36b_120 x0 :: q36b_125 x1 :: q36b_117 x0 :: q36b_127 x0), iO .i64 (0 : Int), q36b_128 x1, q36b_128 x1] = q36b_130 p_1 A B s_1 o ∧
  (s_1 = (0 : Int) ∨ s_1 = (1 : Int)) ∧ asLt A p_1.v ∧ asLt B p_1.w ∧ okP (2000 : Nat) p_1 ∧ okO o) ∧ q36b_131 x2 x3) ∧ True) ∧ True) ∧ True
set_option maxHeartbeats 4000000 in
theorem vc36b : ∀ (p : PrR), have y := q36b_1 p; have y_1 := q36b_3 p; ∀ (s k : Int), have y_2 := moveF (PrR.mk p.a p.b y_1 y p.now p.draw p.u p.t) (MvR.mk (2 : Int) s k);
  okP (1900 : Nat) p → (2 : Int) ≠ (0 : Int) ∧ True ∧ sw (q36b_4 s) (q36b_5 ∧ True ∧ sw (q36b_7 p) (True ∧ sw (q36b_8 k) (q36b_5 ∧ q36b_6 p ≠ (0 : Int) ∧
  True ∧ True ∧ q36b_5 ∧ True ∧ sw (q36b_7 p) (q36b_5 ∧ sw (decide (k.tmod (q36b_6 p) = (0 : Int))) (q36b_5 ∧ True ∧ False ∨ q36b_87 k p y_2) (q36b_87 k p y_2)) (q36b_98 p y_2)) (q36b_100 p y_2)) (q36b_100 p y_2)) (q36b_101 ∧
  True ∧ sw (q36b_103 p) (True ∧ sw (q36b_8 k) (q36b_101 ∧ q36b_102 p ≠ (0 : Int) ∧ True ∧ True ∧ q36b_101 ∧ True ∧ sw (q36b_103 p) (q36b_101 ∧ sw (decide (k.tmod (q36b_102 p) = (0 : Int))) (q36b_101 ∧
  True ∧ False ∨ q36b_105 k p y_2) (q36b_105 k p y_2)) (q36b_98 p y_2)) (q36b_106 p y_2)) (q36b_106 p y_2)) := by
  delta q36b_0 q36b_1 q36b_2 q36b_3 q36b_4 q36b_5 q36b_6 q36b_7 q36b_8 q36b_10 q36b_11 q36b_12 q36b_13 q36b_14 q36b_15 q36b_16 q36b_17 q36b_18 q36b_19
    q36b_20 q36b_21 q36b_22 q36b_23 q36b_24 q36b_25 q36b_26 q36b_27 q36b_28 q36b_29 q36b_30 q36b_31 q36b_32 q36b_33 q36b_34 q36b_35 q36b_36 q36b_37
    q36b_38 q36b_39 q36b_40 q36b_41 q36b_42 q36b_43 q36b_44 q36b_45 q36b_46 q36b_47 q36b_48
   
    false false false false false false false false true q36b_86 q36b_87 q36b_88 false false false false false false false
    false false q36b_98 q36b_99 q36b_100 q36b_101 q36b_102 q36b_103 q36b_104 q36b_105 q36b_106
  simp only [↓sw_iff, ↓Bool.not_eq_true', ↓Bool.not_eq_false', ↓Bool.and_eq_true, ↓decide_eq_true_eq, ↓decide_eq_false_iff_not, size150, bytes150, ltrsOf_ltrs, pr_eta']
  intro p s k hp
  have hn := hp.len
  unfold lenP at hn
  have lw : ∀ x, (putW p 1 (wayF p 1 ++ [x])).w.length = p.w.length + 1 := fun x => List.length_append
  have lv : ∀ x, (putW p 0 (wayF p 0 ++ [x])).v.length = p.v.length + 1 := fun x => List.length_append
  have nw : (0 : Int) < (p.w.length : Int) → 0 < k → 0 ≤ (k).tmod (p.w.length : Int) := fun h h1 => by have := (tmod_nat h h1).1; omega
  have nv : (0 : Int) < (p.v.length : Int) → 0 < k → 0 ≤ (k).tmod (p.v.length : Int) := fun h h1 => by have := (tmod_nat h h1).1; omega
  have tw : (0 : Int) < (p.w.length : Int) → 0 < k → ((k).tmod (p.w.length : Int)).toNat < p.w.length := fun h h1 => (tmod_nat h h1).2.1
  have tv : (0 : Int) < (p.v.length : Int) → 0 < k → ((k).tmod (p.v.length : Int)).toNat < p.v.length := fun h h1 => (tmod_nat h h1).2.1
  have w01 : IntKind.i64.wrap (0 + 1) = 1 := by decide
  simp only [w01]
  repeat' (first
    | (simp only [wr_tm (show (0 : Int) < (p.w.length : Int) by omega) (show 0 < k by omega) (show p.w.length ≤ 1900 by omega), Int.toNat_natCast])
    | (simp only [wr_tm (show (0 : Int) < (p.v.length : Int) by omega) (show 0 < k by omega) (show p.v.length ≤ 1900 by omega), Int.toNat_natCast])
    | (refine (show (_ = (moveF p ⟨2, s, k⟩).a.key) ∧ _ from ?_)
       (first | rw [mv_w (by assumption)] | rw [mv_v (by assumption)])
       (try (first | rw [kF_mod (by assumption) (by assumption)] | rw [kF_0 (by assumption)] | rw [kF_0' (by assumption)] | rw [kF_mod (by omega) (by omega)] | rw [kF_0 (by omega)]))
       (first | rw [ms2 (by assumption)] | rw [ms2' (by assumption)])
       repeat' (first | exact rfl | exact trivial | omega | exact List.length_append.symm | (intro i hi j hj; exact rfl) | exact (lw _).symm | exact (lv _).symm | exact wo_len p.w 0 (by omega) | exact wo_len p.v 0 (by omega) | exact wo_len p.w _ (tw (by omega) (by omega)) | exact wo_len p.v _ (tv (by omega) (by omega)) | (intro i hi j hj; first | exact wayD_at p.w 0 i j (by omega) | exact wayD_at p.v 0 i j (by omega) | exact wayD_at p.w _ i j (tw (by omega) (by omega)) | exact wayD_at p.v _ i j (tv (by omega) (by omega)) | exact ltr_snoc p.w _ i j (by omega) hj | exact ltr_snoc p.v _ i j (by omega) hj) | (intro i hi j hj; exact ltr_app _ _ i j) | apply And.intro))
    | exact .inr rfl
    | refine .inr ?_
    | exact rfl | exact trivial | omega | exact nw (by omega) (by omega) | exact nv (by omega) (by omega) | (have h1 := tw (by omega) (by omega); omega) | (have h1 := tv (by omega) (by omega); omega) | apply And.intro | intro _)
-- b

set_option maxHeartbeats 4000000 in
theorem vc36c : ∀ (p : PrR), have y := q36b_1 p; have y_1 := q36b_3 p; ∀ (s k : Int), have y_2 := moveF (PrR.mk p.a p.b y_1 y p.now p.draw p.u p.t) (MvR.mk (3 : Int) s k);
  okP (1900 : Nat) p → (2 : Int) ≠ (0 : Int) ∧ True ∧ sw (q36b_4 s) (q36b_5 ∧ True ∧ sw (q36b_7 p) (True ∧ sw (q36b_8 k) (q36b_5 ∧ q36b_6 p ≠ (0 : Int) ∧
  True ∧ True ∧ True ∧ q36b_5 ∧ True ∧ sw (q36b_7 p) (q36b_5 ∧ True ∧ sw (decide (q36b_6 p < (40 : Int))) (q36b_5 ∧ q36b_5 ∧ ((0 : Int) ≤ k.tmod (q36b_6 p) ∧
  k.tmod (q36b_6 p) < q36b_6 p) ∧ ((True ∧ (q36b_0 p + (1 : Nat)) * q36b_10.bytes ≤ (140737488355328 : Nat) ∧ q36b_5 ∧ (q36b_11 p y_2 ∧ q36b_12 p y_2 ∧ q36b_13 p y_2 ∧
  q36b_14 p y_2 ∧ q36b_15 p y_2 ∧ q36b_16 p y_2 ∧ q36b_17 p y_2 ∧ q36b_18 p y_2 ∧ q36b_19 p y_2 ∧ q36b_20 p y_2 ∧ q36b_21 p y_2 ∧ q36b_22 p y_2 ∧ q36b_23 p y_2 ∧
  q36b_24 p y_2 ∧ q36b_25 p y_2 ∧ q36b_26 p y_2 ∧ q36b_27 p y_2 ∧ q36b_28 p y_2 ∧ q36b_29 p y_2 ∧ q36b_30 p y_2 ∧ q36b_31 p y_2 ∧ q36b_32 p y_2 ∧ q36b_33 p y_2 ∧
  q36b_34 p y_2 ∧ q36b_35 p y_2 ∧ q36b_36 p y_2 ∧ q36b_37 p y_2 ∧ q36b_38 p y_2 ∧ q36b_39 p y_2 ∧ q36b_40 p y_2 ∧ q36b_41 p y_2 ∧ q36b_42 p y_2 ∧ q36b_43 p y_2 ∧
  q36b_44 p y_2 ∧ q36b_11 p y_2 ∧ q36b_12 p y_2 ∧ q36b_13 p y_2 ∧ q36b_14 p y_2 ∧ q36b_15 p y_2 ∧ q36b_21 p y_2 ∧ q36b_22 p y_2 ∧ q36b_23 p y_2 ∧ q36b_24 p y_2 ∧
  q36b_26 p y_2 ∧ q36b_27 p y_2 ∧ q36b_25 p y_2 ∧ q36b_16 p y_2 ∧ q36b_17 p y_2 ∧ q36b_19 p y_2 ∧ q36b_18 p y_2 ∧ q36b_20 p y_2 ∧ q36b_45 ∧ q36b_46 ∧ q36b_28 p y_2 ∧
  q36b_29 p y_2 ∧ q36b_30 p y_2 ∧ q36b_31 p y_2 ∧ q36b_32 p y_2 ∧ q36b_38 p y_2 ∧ q36b_39 p y_2 ∧ q36b_40 p y_2 ∧ q36b_41 p y_2 ∧ q36b_43 p y_2 ∧ q36b_44 p y_2 ∧
  q36b_42 p y_2 ∧ q36b_33 p y_2 ∧ q36b_34 p y_2 ∧ q36b_36 p y_2 ∧ q36b_35 p y_2 ∧ q36b_37 p y_2 ∧ q36b_45 ∧ q36b_46 ∧ q36b_47 p y_2 ∧ (q36b_0 p + (1 : Nat) = q36b_0 y_2 ∧
  ∀ (i : Nat), i < q36b_0 p + (1 : Nat) → ∀ (j : Nat), j < (4 : Nat) → (bif i.blt (q36b_0 p) then ltrCell p.w i j else [D.v (Value.int IntKind.u32 (p.w.getD (k.tmod (q36b_6 p)).toNat noLtr).tag), D.v (Value.int IntKind.u8 (q36b_107 p k).t), D.v (Value.int IntKind.u8 (q36b_107 p k).f), D.ints IntKind.u8 (q36b_107 p k).v].getD ((i - q36b_0 p) * q36b_10.size + j) (D.v undef)) = ltrCell y_2.w i j) ∧
  q36b_108 p y_2) ∧ True) ∧ True) ∧ True) (q36b_98 p y_2)) (q36b_98 p y_2)) (q36b_110 p y_2)) (q36b_110 p y_2)) (q36b_101 ∧ True ∧ sw (q36b_103 p) (True ∧
  sw (q36b_8 k) (q36b_101 ∧ q36b_102 p ≠ (0 : Int) ∧ True ∧ True ∧ True ∧ q36b_101 ∧ True ∧ sw (q36b_103 p) (q36b_101 ∧ True ∧ sw (decide (q36b_102 p < (40 : Int))) (q36b_101 ∧
  q36b_101 ∧ ((0 : Int) ≤ k.tmod (q36b_102 p) ∧ k.tmod (q36b_102 p) < q36b_102 p) ∧ ((True ∧ (q36b_2 p + (1 : Nat)) * q36b_10.bytes ≤ (140737488355328 : Nat) ∧
  q36b_101 ∧ (q36b_11 p y_2 ∧ q36b_12 p y_2 ∧ q36b_13 p y_2 ∧ q36b_14 p y_2 ∧ q36b_15 p y_2 ∧ q36b_16 p y_2 ∧ q36b_17 p y_2 ∧ q36b_18 p y_2 ∧ q36b_19 p y_2 ∧
  q36b_20 p y_2 ∧ q36b_21 p y_2 ∧ q36b_22 p y_2 ∧ q36b_23 p y_2 ∧ q36b_24 p y_2 ∧ q36b_25 p y_2 ∧ q36b_26 p y_2 ∧ q36b_27 p y_2 ∧ q36b_28 p y_2 ∧ q36b_29 p y_2 ∧
  q36b_30 p y_2 ∧ q36b_31 p y_2 ∧ q36b_32 p y_2 ∧ q36b_33 p y_2 ∧ q36b_34 p y_2 ∧ q36b_35 p y_2 ∧ q36b_36 p y_2 ∧ q36b_37 p y_2 ∧ q36b_38 p y_2 ∧ q36b_39 p y_2 ∧
  q36b_40 p y_2 ∧ q36b_41 p y_2 ∧ q36b_42 p y_2 ∧ q36b_43 p y_2 ∧ q36b_44 p y_2 ∧ q36b_11 p y_2 ∧ q36b_12 p y_2 ∧ q36b_13 p y_2 ∧ q36b_14 p y_2 ∧ q36b_15 p y_2 ∧
  q36b_21 p y_2 ∧ q36b_22 p y_2 ∧ q36b_23 p y_2 ∧ q36b_24 p y_2 ∧ q36b_26 p y_2 ∧ q36b_27 p y_2 ∧ q36b_25 p y_2 ∧ q36b_16 p y_2 ∧ q36b_17 p y_2 ∧ q36b_19 p y_2 ∧
  q36b_18 p y_2 ∧ q36b_20 p y_2 ∧ q36b_45 ∧ q36b_46 ∧ q36b_28 p y_2 ∧ q36b_29 p y_2 ∧ q36b_30 p y_2 ∧ q36b_31 p y_2 ∧ q36b_32 p y_2 ∧ q36b_38 p y_2 ∧ q36b_39 p y_2 ∧
  q36b_40 p y_2 ∧ q36b_41 p y_2 ∧ q36b_43 p y_2 ∧ q36b_44 p y_2 ∧ q36b_42 p y_2 ∧ q36b_33 p y_2 ∧ q36b_34 p y_2 ∧ q36b_36 p y_2 ∧ q36b_35 p y_2 ∧ q36b_37 p y_2 ∧
  q36b_45 ∧ q36b_46 ∧ (q36b_2 p + (1 : Nat) = q36b_2 y_2 ∧ ∀ (i : Nat), i < q36b_2 p + (1 : Nat) → ∀ (j : Nat), j < (4 : Nat) → (bif i.blt (q36b_2 p) then ltrCell p.v i j else [D.v (Value.int IntKind.u32 (p.v.getD (k.tmod (q36b_102 p)).toNat noLtr).tag), D.v (Value.int IntKind.u8 (q36b_111 p k).t), D.v (Value.int IntKind.u8 (q36b_111 p k).f), D.ints IntKind.u8 (q36b_111 p k).v].getD ((i - q36b_2 p) * q36b_10.size + j) (D.v undef)) = ltrCell y_2.v i j) ∧
  q36b_112 p y_2) ∧ True) ∧ True) ∧ True) (q36b_98 p y_2)) (q36b_98 p y_2)) (q36b_114 p y_2)) (q36b_114 p y_2)) := by
  delta q36b_0 q36b_1 q36b_2 q36b_3 q36b_4 q36b_5 q36b_6 q36b_7 q36b_8 q36b_10 q36b_11 q36b_12 q36b_13 q36b_14 q36b_15 q36b_16 q36b_17 q36b_18 q36b_19
    q36b_20 q36b_21 q36b_22 q36b_23 q36b_24 q36b_25 q36b_26 q36b_27 q36b_28 q36b_29 q36b_30 q36b_31 q36b_32 q36b_33 q36b_34 q36b_35 q36b_36 q36b_37
    q36b_38 q36b_39 q36b_40 q36b_41 q36b_42 q36b_43 q36b_44 q36b_45 q36b_46 q36b_47 q36b_48
   
    false false false false false false false false true q36b_88 false false false false false false false false false
    q36b_98 q36b_101 q36b_102 q36b_103 q36b_107 q36b_108 q36b_109 q36b_110 q36b_111 q36b_112 q36b_113 q36b_114
  simp only [↓sw_iff, ↓Bool.not_eq_true', ↓Bool.not_eq_false', ↓Bool.and_eq_true, ↓decide_eq_true_eq, ↓decide_eq_false_iff_not, size150, bytes150, ltrsOf_ltrs, pr_eta']
  intro p s k hp
  have hn := hp.len
  unfold lenP at hn
  have lw : ∀ x, (putW p 1 (wayF p 1 ++ [x])).w.length = p.w.length + 1 := fun x => List.length_append
  have lv : ∀ x, (putW p 0 (wayF p 0 ++ [x])).v.length = p.v.length + 1 := fun x => List.length_append
  have nw : (0 : Int) < (p.w.length : Int) → 0 < k → 0 ≤ (k).tmod (p.w.length : Int) := fun h h1 => by have := (tmod_nat h h1).1; omega
  have nv : (0 : Int) < (p.v.length : Int) → 0 < k → 0 ≤ (k).tmod (p.v.length : Int) := fun h h1 => by have := (tmod_nat h h1).1; omega
  have tw : (0 : Int) < (p.w.length : Int) → 0 < k → ((k).tmod (p.w.length : Int)).toNat < p.w.length := fun h h1 => (tmod_nat h h1).2.1
  have tv : (0 : Int) < (p.v.length : Int) → 0 < k → ((k).tmod (p.v.length : Int)).toNat < p.v.length := fun h h1 => (tmod_nat h h1).2.1
  repeat' (first
    | (refine (show (_ = (moveF p ⟨3, s, k⟩).a.key) ∧ _ from ?_)
       (first | rw [mv_w (by assumption)] | rw [mv_v (by assumption)])
       (try (first | rw [kF_mod (by assumption) (by assumption)] | rw [kF_0 (by assumption)] | rw [kF_0' (by assumption)] | rw [kF_mod (by omega) (by omega)] | rw [kF_0 (by omega)]))
       (first | rw [ms3 (p := p) (s := 1) (show (0 : Int) < (p.w.length : Int) by omega) (show (p.w.length : Int) < 40 by omega)] | rw [ms3 (p := p) (s := 0) (show (0 : Int) < (p.v.length : Int) by omega) (show (p.v.length : Int) < 40 by omega)] | rw [ms3' (p := p) (s := 1) (show ¬ ((0 : Int) < (p.w.length : Int) ∧ (p.w.length : Int) < 40) by omega)] | rw [ms3' (p := p) (s := 0) (show ¬ ((0 : Int) < (p.v.length : Int) ∧ (p.v.length : Int) < 40) by omega)])
       repeat' (first | exact rfl | exact trivial | omega | exact List.length_append.symm | (intro i hi j hj; exact rfl) | exact (lw _).symm | exact (lv _).symm | exact wo_len p.w 0 (by omega) | exact wo_len p.v 0 (by omega) | exact wo_len p.w _ (tw (by omega) (by omega)) | exact wo_len p.v _ (tv (by omega) (by omega)) | (intro i hi j hj; first | exact wayD_at p.w 0 i j (by omega) | exact wayD_at p.v 0 i j (by omega) | exact wayD_at p.w _ i j (tw (by omega) (by omega)) | exact wayD_at p.v _ i j (tv (by omega) (by omega)) | exact ltr_snoc p.w _ i j (by omega) hj | exact ltr_snoc p.v _ i j (by omega) hj) | (intro i hi j hj; exact ltr_app _ _ i j) | apply And.intro))
    | exact .inr rfl
    | refine .inr ?_
    | exact rfl | exact trivial | omega | exact nw (by omega) (by omega) | exact nv (by omega) (by omega) | (have h1 := tw (by omega) (by omega); omega) | (have h1 := tv (by omega) (by omega); omega) | apply And.intro | intro _)
-- c

set_option maxHeartbeats 4000000 in
theorem vc36e : ∀ (p : PrR), have y := q36b_3 p; have y_1 := q36b_1 p; have y_2 := tickA p.a (q36b_115 p); have y_3 := tickA p.b (q36b_115 p); have y_4 := ltrsOf (D.recs 4 y_2.snd.pk.length (ltrCell y_2.snd.pk));
  have y_5 := ltrsOf (D.recs 4 y_3.snd.pk.length (ltrCell y_3.snd.pk)); have y_6 := saidF (PrR.mk p.a y_3.fst y y_1 (q36b_115 p) p.draw p.u p.t) (1 : Int) (OutR.mk y_5 y_3.snd.ev);
  have y_7 := saidF (PrR.mk y_2.fst p.b y y_1 (q36b_115 p) p.draw p.u p.t) (0 : Int) (OutR.mk y_4 y_2.snd.ev); ∀ (s k : Int), have y_8 := moveF (PrR.mk p.a p.b y y_1 p.now p.draw p.u p.t) (MvR.mk (5 : Int) s k);
  okP (1900 : Nat) p → (2 : Int) ≠ (0 : Int) ∧ True ∧ sw (q36b_4 s) (q36b_5 ∧ True ∧ sw (q36b_7 p) (True ∧ sw (q36b_8 k) (q36b_5 ∧ q36b_6 p ≠ (0 : Int) ∧
  q36b_132 p y_3 y_6 y_8) (q36b_132 p y_3 y_6 y_8)) (q36b_132 p y_3 y_6 y_8)) (q36b_101 ∧ True ∧ sw (q36b_103 p) (True ∧ sw (q36b_8 k) (q36b_101 ∧ q36b_102 p ≠ (0 : Int) ∧
  q36b_133 p y_2 y_7 y_8) (q36b_133 p y_2 y_7 y_8)) (q36b_133 p y_2 y_7 y_8)) := by
  delta q36b_0 q36b_1 q36b_2 q36b_3 q36b_4 q36b_5 q36b_6 q36b_7 q36b_8 q36b_11 q36b_12 q36b_13 q36b_14 q36b_15 q36b_16 q36b_17 q36b_18 q36b_19 q36b_20
    q36b_21 q36b_22 q36b_23 q36b_24 q36b_25 q36b_26 q36b_27 q36b_28 q36b_29 q36b_30 q36b_31 q36b_32 q36b_33 q36b_34 q36b_35 q36b_36 q36b_37 q36b_38
    q36b_39 q36b_40 q36b_41 q36b_42 q36b_43 q36b_44 q36b_45 q36b_46 q36b_47 q36b_48 q36b_88 q36b_101 q36b_102 q36b_103 q36b_115 q36b_116 q36b_117
    q36b_118 q36b_119 q36b_120 q36b_121 q36b_122 q36b_123 q36b_124 q36b_125 q36b_126 q36b_127 q36b_128 q36b_129 q36b_130 q36b_131 q36b_132 q36b_133 iO
  simp only [↓sw_iff, ↓Bool.not_eq_true', ↓Bool.not_eq_false', ↓Bool.and_eq_true, ↓decide_eq_true_eq, ↓decide_eq_false_iff_not, ltrsOf_ltrs, pr_eta', out_eta]
  intro p s k hp
  have hn := hp.len
  unfold lenP at hn
  have lw : ∀ x, (putW p 1 (wayF p 1 ++ [x])).w.length = p.w.length + 1 := fun x => List.length_append
  have lv : ∀ x, (putW p 0 (wayF p 0 ++ [x])).v.length = p.v.length + 1 := fun x => List.length_append
  have nw : (0 : Int) < (p.w.length : Int) → 0 < k → 0 ≤ (k).tmod (p.w.length : Int) := fun h h1 => by have := (tmod_nat h h1).1; omega
  have nv : (0 : Int) < (p.v.length : Int) → 0 < k → 0 ≤ (k).tmod (p.v.length : Int) := fun h h1 => by have := (tmod_nat h h1).1; omega
  have tw : (0 : Int) < (p.w.length : Int) → 0 < k → ((k).tmod (p.w.length : Int)).toNat < p.w.length := fun h h1 => (tmod_nat h h1).2.1
  have tv : (0 : Int) < (p.v.length : Int) → 0 < k → ((k).tmod (p.v.length : Int)).toNat < p.v.length := fun h h1 => (tmod_nat h h1).2.1
  have hw : okNow (p.now + 1) := okNow_of (N := 1901) (by have := hp.now; omega) (by omega)
  have w1 : IntKind.i64.wrap (p.now + 1) = p.now + 1 := wrap_i64_id (by have := hp.now; omega) (by have := hp.now; omega)
  simp only [w1]
  repeat' (first
    | (refine (show (_ = (moveF p ⟨5, s, k⟩).a.key) ∧ _ from ?_)
       (first | rw [mv_w (by assumption)] | rw [mv_v (by assumption)])
       (try (first | rw [kF_mod (by assumption) (by assumption)] | rw [kF_0 (by assumption)] | rw [kF_0' (by assumption)] | rw [kF_mod (by omega) (by omega)] | rw [kF_0 (by omega)]))
       rw [ms5]
       repeat' (first | exact rfl | exact trivial | omega | exact List.length_append.symm | (intro i hi j hj; exact rfl) | exact (lw _).symm | exact (lv _).symm | exact wo_len p.w 0 (by omega) | exact wo_len p.v 0 (by omega) | exact wo_len p.w _ (tw (by omega) (by omega)) | exact wo_len p.v _ (tv (by omega) (by omega)) | (intro i hi j hj; first | exact wayD_at p.w 0 i j (by omega) | exact wayD_at p.v 0 i j (by omega) | exact wayD_at p.w _ i j (tw (by omega) (by omega)) | exact wayD_at p.v _ i j (tv (by omega) (by omega)) | exact ltr_snoc p.w _ i j (by omega) hj | exact ltr_snoc p.v _ i j (by omega) hj) | (intro i hi j hj; exact ltr_app _ _ i j) | apply And.intro))
    | exact ⟨p.b, p.now + 1, rfl, hp.b, hw⟩
    | exact said_pre (putS { p with now := p.now + 1 } 1 (tickA p.b (p.now + 1)).1) (.inr rfl) (tick_mid hp 1)
    | exact ⟨p.a, p.now + 1, rfl, hp.a, hw⟩
    | exact said_pre (putS { p with now := p.now + 1 } 0 (tickA p.a (p.now + 1)).1) (.inl rfl) (tick_mid hp 0)
    | exact .inr rfl
    | refine .inr ?_
    | exact rfl | exact trivial | omega | exact nw (by omega) (by omega) | exact nv (by omega) (by omega) | (have h1 := tw (by omega) (by omega); omega) | (have h1 := tv (by omega) (by omega); omega) | apply And.intro | intro _)
-- e

end Go.ZR
