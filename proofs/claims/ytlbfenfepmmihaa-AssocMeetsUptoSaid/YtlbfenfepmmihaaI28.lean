/- Part 28 of what the closing text rests on. -/
import Derived.Test.YtlbfenfepmmihaaI24
import Derived.Test.YtlbfenfepmmihaaI25
import Derived.Test.YtlbfenfepmmihaaI26
import Derived.Test.YtlbfenfepmmihaaI27
import Derived.Test.YtlbfenfepmmihaaRows
namespace Go.ZR
open Go.Proofs
open Go.Z Go.ZM Go.RowKit
set_option maxRecDepth 100000
noncomputable def iMc27 : Code := match Try.f27.body with | some c => c | none => .skip
noncomputable def iM_27 : InlF := ⟨iMc27, Try.f27.ntmps, Try.f27.results.toList, anns []⟩
noncomputable def iMc28 : Code := match Try.f28.body with | some c => c | none => .skip
noncomputable def iM_28 : InlF := ⟨iMc28, Try.f28.ntmps, Try.f28.results.toList, anns []⟩
noncomputable def iM : List (Nat × InlF) := [(27, iM_27), (28, iM_28)]
theorem iM_ok : InlsOk Try.prog iM := ⟨inlOk Try.func27 (by kernel_rfl) (by kernel_rfl), inlOk Try.func28 (by kernel_rfl) (by kernel_rfl), trivial⟩
noncomputable def code36 : Code := match Try.f36.body with | some c => c | none => .skip
@[reducible] noncomputable def q36z_0 (x0 : PrR) : Nat := x0.w.length
@[reducible] noncomputable def q36z_1 (x0 : PrR) : Nat := x0.v.length
@[reducible] def q36z_2 : Prop := (0 : Int) ≤ (1 : Int) ∧ (1 : Int) < (↑(2 : Nat) : Int)
@[reducible] noncomputable def q36z_3 (x0 : PrR) : Int := (↑(q36z_0 x0) : Int)
@[reducible] noncomputable def q36z_4 (x0 : PrR) : Bool := decide ((0 : Int) < q36z_3 x0)
@[reducible] noncomputable def q36z_5 (x0 : MvR) : Bool := decide (x0.kind = (1 : Int))
@[reducible] def q36z_6 (x0 : PrR) (x1 : PrR) : Prop := x0.a.key = x1.a.key
@[reducible] def q36z_7 (x0 : PrR) (x1 : PrR) : Prop := x0.a.win = x1.a.win
@[reducible] def q36z_8 (x0 : PrR) (x1 : PrR) : Prop := x0.a.life = x1.a.life
@[reducible] def q36z_9 (x0 : PrR) (x1 : PrR) : Prop := x0.a.rto = x1.a.rto
@[reducible] def q36z_10 (x0 : PrR) (x1 : PrR) : Prop := x0.a.tries = x1.a.tries
@[reducible] def q36z_11 (x0 : PrR) (x1 : PrR) : Prop := x0.a.st = x1.a.st
@[reducible] def q36z_12 (x0 : PrR) (x1 : PrR) : Prop := x0.a.mt = x1.a.mt
@[reducible] def q36z_13 (x0 : PrR) (x1 : PrR) : Prop := x0.a.pt = x1.a.pt
@[reducible] def q36z_14 (x0 : PrR) (x1 : PrR) : Prop := x0.a.ms = x1.a.ms
@[reducible] def q36z_15 (x0 : PrR) (x1 : PrR) : Prop := x0.a.ps = x1.a.ps
@[reducible] def q36z_16 (x0 : PrR) (x1 : PrR) : Prop := x0.a.ltag = x1.a.ltag
@[reducible] def q36z_17 (x0 : PrR) (x1 : PrR) : Prop := x0.a.lch.t = x1.a.lch.t
@[reducible] def q36z_18 (x0 : PrR) (x1 : PrR) : Prop := x0.a.lch.f = x1.a.lch.f
@[reducible] def q36z_19 (x0 : PrR) (x1 : PrR) : Prop := x0.a.lch.v = x1.a.lch.v
@[reducible] def q36z_20 (x0 : PrR) (x1 : PrR) : Prop := x0.a.set = x1.a.set
@[reducible] def q36z_21 (x0 : PrR) (x1 : PrR) : Prop := x0.a.at_ = x1.a.at_
@[reducible] def q36z_22 (x0 : PrR) (x1 : PrR) : Prop := x0.a.left = x1.a.left
@[reducible] def q36z_23 (x0 : PrR) (x1 : PrR) : Prop := x0.b.key = x1.b.key
@[reducible] def q36z_24 (x0 : PrR) (x1 : PrR) : Prop := x0.b.win = x1.b.win
@[reducible] def q36z_25 (x0 : PrR) (x1 : PrR) : Prop := x0.b.life = x1.b.life
@[reducible] def q36z_26 (x0 : PrR) (x1 : PrR) : Prop := x0.b.rto = x1.b.rto
@[reducible] def q36z_27 (x0 : PrR) (x1 : PrR) : Prop := x0.b.tries = x1.b.tries
@[reducible] def q36z_28 (x0 : PrR) (x1 : PrR) : Prop := x0.b.st = x1.b.st
@[reducible] def q36z_29 (x0 : PrR) (x1 : PrR) : Prop := x0.b.mt = x1.b.mt
@[reducible] def q36z_30 (x0 : PrR) (x1 : PrR) : Prop := x0.b.pt = x1.b.pt
@[reducible] def q36z_31 (x0 : PrR) (x1 : PrR) : Prop := x0.b.ms = x1.b.ms
@[reducible] def q36z_32 (x0 : PrR) (x1 : PrR) : Prop := x0.b.ps = x1.b.ps
@[reducible] def q36z_33 (x0 : PrR) (x1 : PrR) : Prop := x0.b.ltag = x1.b.ltag
@[reducible] def q36z_34 (x0 : PrR) (x1 : PrR) : Prop := x0.b.lch.t = x1.b.lch.t
@[reducible] def q36z_35 (x0 : PrR) (x1 : PrR) : Prop := x0.b.lch.f = x1.b.lch.f
@[reducible] def q36z_36 (x0 : PrR) (x1 : PrR) : Prop := x0.b.lch.v = x1.b.lch.v
@[reducible] def q36z_37 (x0 : PrR) (x1 : PrR) : Prop := x0.b.set = x1.b.set
@[reducible] def q36z_38 (x0 : PrR) (x1 : PrR) : Prop := x0.b.at_ = x1.b.at_
@[reducible] def q36z_39 (x0 : PrR) (x1 : PrR) : Prop := x0.b.left = x1.b.left
@[reducible] def q36z_40 : Prop := (0 : Nat) = (0 : Nat) ∧ ∀ (i : Nat), i < (0 : Nat) → ∀ (j : Nat), j < (4 : Nat) → ltrCell noOut.pk i j = ltrCell noOut.pk i j
@[reducible] def q36z_41 : Prop := noOut.ev = noOut.ev
@[reducible] def q36z_42 (x0 : PrR) (x1 : PrR) : Prop := q36z_1 x0 = q36z_1 x1 ∧ ∀ (i : Nat), i < q36z_1 x0 → ∀ (j : Nat), j < (4 : Nat) → ltrCell x0.v i j = ltrCell x1.v i j
@[reducible] def q36z_43 (x0 : PrR) (x1 : PrR) : Prop := q36z_0 x0 = q36z_0 x1 ∧ ∀ (i : Nat), i < q36z_0 x0 → ∀ (j : Nat), j < (4 : Nat) → ltrCell x0.w i j = ltrCell x1.w i j
@[reducible] def q36z_44 : Prop := false = false
@[reducible] def q36z_91 (x0 : PrR) (x1 : PrR) : Prop := q36z_6 x0 x1 ∧ q36z_7 x0 x1 ∧ q36z_8 x0 x1 ∧ q36z_9 x0 x1 ∧ q36z_10 x0 x1 ∧ q36z_11 x0 x1 ∧ q36z_12 x0 x1 ∧
  q36z_13 x0 x1 ∧ q36z_14 x0 x1 ∧ q36z_15 x0 x1 ∧ q36z_16 x0 x1 ∧ q36z_17 x0 x1 ∧ q36z_18 x0 x1 ∧ q36z_19 x0 x1 ∧ q36z_20 x0 x1 ∧ q36z_21 x0 x1 ∧ q36z_22 x0 x1 ∧
  q36z_23 x0 x1 ∧ q36z_24 x0 x1 ∧ q36z_25 x0 x1 ∧ q36z_26 x0 x1 ∧ q36z_27 x0 x1 ∧ q36z_28 x0 x1 ∧ q36z_29 x0 x1 ∧ q36z_30 x0 x1 ∧ q36z_31 x0 x1 ∧ q36z_32 x0 x1 ∧
  q36z_33 x0 x1 ∧ q36z_34 x0 x1 ∧ q36z_35 x0 x1 ∧ q36z_36 x0 x1 ∧ q36z_37 x0 x1 ∧ q36z_38 x0 x1 ∧ q36z_39 x0 x1 ∧ q36z_6 x0 x1 ∧ q36z_7 x0 x1 ∧ q36z_8 x0 x1 ∧
  q36z_9 x0 x1 ∧ q36z_10 x0 x1 ∧ q36z_16 x0 x1 ∧ q36z_17 x0 x1 ∧ q36z_18 x0 x1 ∧ q36z_19 x0 x1 ∧ q36z_21 x0 x1 ∧ q36z_22 x0 x1 ∧ q36z_20 x0 x1 ∧ q36z_11 x0 x1 ∧
  q36z_12 x0 x1 ∧ q36z_14 x0 x1 ∧ q36z_13 x0 x1 ∧ q36z_15 x0 x1 ∧ q36z_40 ∧ q36z_41 ∧ q36z_23 x0 x1 ∧ q36z_24 x0 x1 ∧ q36z_25 x0 x1 ∧ q36z_26 x0 x1 ∧ q36z_27 x0 x1 ∧
  q36z_33 x0 x1 ∧ q36z_34 x0 x1 ∧ q36z_35 x0 x1 ∧ q36z_36 x0 x1 ∧ q36z_38 x0 x1 ∧ q36z_39 x0 x1 ∧ q36z_37 x0 x1 ∧ q36z_28 x0 x1 ∧ q36z_29 x0 x1 ∧ q36z_31 x0 x1 ∧
  q36z_30 x0 x1 ∧ q36z_32 x0 x1 ∧ q36z_40 ∧ q36z_41 ∧ q36z_42 x0 x1 ∧ q36z_43 x0 x1 ∧ x0.now = x1.now ∧ x0.draw = x1.draw ∧ q36z_44 ∧ x0.u = x1.u ∧ x0.t = x1.t ∧
  (true && true && true) = true
@[reducible] noncomputable def q36z_92 (x0 : MvR) : Bool := decide (x0.kind = (2 : Int))
@[reducible] noncomputable def q36z_93 : Nat := Try.prog.types.size
@[reducible] noncomputable def q36z_94 : TypeInfo := Try.prog.types[150]
@[reducible] def q36z_95 (x0 : PrR) (x1 : PrR) : Prop := x0.now = x1.now ∧ x0.draw = x1.draw ∧ q36z_44 ∧ x0.u = x1.u ∧ x0.t = x1.t ∧ (true && true && true) = true
@[reducible] def q36z_96 (x0 : MvR) (x1 : PrR) (x2 : PrR) : Prop := ((0 : Int) ≤ x0.k.tmod (q36z_3 x1) ∧ x0.k.tmod (q36z_3 x1) ≤ q36z_3 x1) ∧ q36z_2 ∧ True ∧
  ((0 : Int) ≤ IntKind.i64.wrap (x0.k.tmod (q36z_3 x1) + (1 : Int)) ∧ IntKind.i64.wrap (x0.k.tmod (q36z_3 x1) + (1 : Int)) ≤ q36z_3 x1) ∧ ((True ∧ ((0 : Nat) + (x0.k.tmod (q36z_3 x1)).toNat) * q36z_94.bytes ≤ (140737488355328 : Nat) ∧
  (True ∧ ((0 : Nat) + (x0.k.tmod (q36z_3 x1)).toNat + (q36z_0 x1 - (IntKind.i64.wrap (x0.k.tmod (q36z_3 x1) + (1 : Int))).toNat)) * q36z_94.bytes ≤ (140737488355328 : Nat) ∧
  q36z_2 ∧ (q36z_6 x1 x2 ∧ q36z_7 x1 x2 ∧ q36z_8 x1 x2 ∧ q36z_9 x1 x2 ∧ q36z_10 x1 x2 ∧ q36z_11 x1 x2 ∧ q36z_12 x1 x2 ∧ q36z_13 x1 x2 ∧ q36z_14 x1 x2 ∧ q36z_15 x1 x2 ∧
  q36z_16 x1 x2 ∧ q36z_17 x1 x2 ∧ q36z_18 x1 x2 ∧ q36z_19 x1 x2 ∧ q36z_20 x1 x2 ∧ q36z_21 x1 x2 ∧ q36z_22 x1 x2 ∧ q36z_23 x1 x2 ∧ q36z_24 x1 x2 ∧ q36z_25 x1 x2 ∧
  q36z_26 x1 x2 ∧ q36z_27 x1 x2 ∧ q36z_28 x1 x2 ∧ q36z_29 x1 x2 ∧ q36z_30 x1 x2 ∧ q36z_31 x1 x2 ∧ q36z_32 x1 x2 ∧ q36z_33 x1 x2 ∧ q36z_34 x1 x2 ∧ q36z_35 x1 x2 ∧
  q36z_36 x1 x2 ∧ q36z_37 x1 x2 ∧ q36z_38 x1 x2 ∧ q36z_39 x1 x2 ∧ q36z_6 x1 x2 ∧ q36z_7 x1 x2 ∧ q36z_8 x1 x2 ∧ q36z_9 x1 x2 ∧ q36z_10 x1 x2 ∧ q36z_16 x1 x2 ∧
  q36z_17 x1 x2 ∧ q36z_18 x1 x2 ∧ q36z_19 x1 x2 ∧ q36z_21 x1 x2 ∧ q36z_22 x1 x2 ∧ q36z_20 x1 x2 ∧ q36z_11 x1 x2 ∧ q36z_12 x1 x2 ∧ q36z_14 x1 x2 ∧ q36z_13 x1 x2 ∧
  q36z_15 x1 x2 ∧ q36z_40 ∧ q36z_41 ∧ q36z_23 x1 x2 ∧ q36z_24 x1 x2 ∧ q36z_25 x1 x2 ∧ q36z_26 x1 x2 ∧ q36z_27 x1 x2 ∧ q36z_33 x1 x2 ∧ q36z_34 x1 x2 ∧ q36z_35 x1 x2 ∧
  q36z_36 x1 x2 ∧ q36z_38 x1 x2 ∧ q36z_39 x1 x2 ∧ q36z_37 x1 x2 ∧ q36z_28 x1 x2 ∧ q36z_29 x1 x2 ∧ q36z_31 x1 x2 ∧ q36z_30 x1 x2 ∧ q36z_32 x1 x2 ∧ q36z_40 ∧
  q36z_41 ∧ q36z_42 x1 x2 ∧ ((0 : Nat) + (x0.k.tmod (q36z_3 x1)).toNat + (q36z_0 x1 - (IntKind.i64.wrap (x0.k.tmod (q36z_3 x1) + (1 : Int))).toNat) = q36z_0 x2 ∧
  ∀ (i : Nat), i < (0 : Nat) + (x0.k.tmod (q36z_3 x1)).toNat + (q36z_0 x1 - (IntKind.i64.wrap (x0.k.tmod (q36z_3 x1) + (1 : Int))).toNat) → ∀ (j : Nat), j < q36z_94.size →
  (bif i.blt ((0 : Nat) + (x0.k.tmod (q36z_3 x1)).toNat) then ltrCell x1.w (i - (0 : Nat)) j else ltrCell x1.w ((IntKind.i64.wrap (x0.k.tmod (q36z_3 x1) + (1 : Int))).toNat + (i - ((0 : Nat) + (x0.k.tmod (q36z_3 x1)).toNat))) j) = ltrCell x2.w i j) ∧
  q36z_95 x1 x2) ∧ True) ∧ True) ∧ True) ∧ True
@[reducible] noncomputable def q36z_97 (x0 : MvR) : Bool := decide (x0.kind = (3 : Int))
@[reducible] noncomputable def q36z_98 (x0 : PrR) (x1 : MvR) : ChR := (x0.w.getD (x1.k.tmod (q36z_3 x0)).toNat noLtr).ch
@[reducible] def q36z_99 (x0 : PrR) (x1 : PrR) : Prop := x0.now = x1.now ∧ x0.draw = x1.draw ∧ q36z_44 ∧ x0.u = x1.u ∧ x0.t = x1.t ∧ (true && true && true) = true
@[reducible] def q36z_100 (x0 : MvR) (x1 : PrR) (x2 : PrR) : Prop := True ∧ sw (decide (x0.kind = (4 : Int))) False (True ∧ sw (decide (x0.kind = (5 : Int))) (True ∧
  q36z_2 ∧ q36z_2 ∧ False ∧ True) (True ∧ sw (decide (x0.kind = (6 : Int))) (q36z_2 ∧ False ∧ (False ∧ True) ∧ True) (True ∧ sw (decide (x0.kind = (7 : Int))) (q36z_2 ∧
  q36z_2 ∧ False ∧ True) (True ∧ sw (decide (x0.kind = (8 : Int))) (q36z_2 ∧ q36z_2 ∧ False ∧ True) (True ∧ sw (decide (x0.kind = (9 : Int))) False (q36z_91 x1 x2))))))
@[reducible] noncomputable def q36z_101 : Int := IntKind.i64.wrap ((0 : Int) + (1 : Int))
@[reducible] noncomputable def q36z_102 (x0 : PrR) : ChR := (x0.w.getD (Int.toNat (0 : Int)) noLtr).ch
@[reducible] def q36z_103 (x0 : MvR) (x1 : PrR) (x2 : PrR) : Prop := True ∧ sw (q36z_5 x0) (q36z_2 ∧ True ∧ sw (q36z_4 x1) False (q36z_91 x1 x2)) (True ∧
  sw (q36z_92 x0) (q36z_2 ∧ True ∧ sw (q36z_4 x1) (q36z_2 ∧ (q36z_2 ∧ True ∧ False ∨ ((0 : Int) ≤ (0 : Int) ∧ (0 : Int) ≤ q36z_3 x1) ∧ q36z_2 ∧ True ∧ ((0 : Int) ≤ q36z_101 ∧
  q36z_101 ≤ q36z_3 x1) ∧ ((True ∧ (0 : Nat) ≤ (140737488355328 : Nat) ∧ (True ∧ ((0 : Nat) + (q36z_0 x1 - q36z_101.toNat)) * q36z_94.bytes ≤ (140737488355328 : Nat) ∧
  q36z_2 ∧ (q36z_6 x1 x2 ∧ q36z_7 x1 x2 ∧ q36z_8 x1 x2 ∧ q36z_9 x1 x2 ∧ q36z_10 x1 x2 ∧ q36z_11 x1 x2 ∧ q36z_12 x1 x2 ∧ q36z_13 x1 x2 ∧ q36z_14 x1 x2 ∧ q36z_15 x1 x2 ∧
  q36z_16 x1 x2 ∧ q36z_17 x1 x2 ∧ q36z_18 x1 x2 ∧ q36z_19 x1 x2 ∧ q36z_20 x1 x2 ∧ q36z_21 x1 x2 ∧ q36z_22 x1 x2 ∧ q36z_23 x1 x2 ∧ q36z_24 x1 x2 ∧ q36z_25 x1 x2 ∧
  q36z_26 x1 x2 ∧ q36z_27 x1 x2 ∧ q36z_28 x1 x2 ∧ q36z_29 x1 x2 ∧ q36z_30 x1 x2 ∧ q36z_31 x1 x2 ∧ q36z_32 x1 x2 ∧ q36z_33 x1 x2 ∧ q36z_34 x1 x2 ∧ q36z_35 x1 x2 ∧
  q36z_36 x1 x2 ∧ q36z_37 x1 x2 ∧ q36z_38 x1 x2 ∧ q36z_39 x1 x2 ∧ q36z_6 x1 x2 ∧ q36z_7 x1 x2 ∧ q36z_8 x1 x2 ∧ q36z_9 x1 x2 ∧ q36z_10 x1 x2 ∧ q36z_16 x1 x2 ∧
  q36z_17 x1 x2 ∧ q36z_18 x1 x2 ∧ q36z_19 x1 x2 ∧ q36z_21 x1 x2 ∧ q36z_22 x1 x2 ∧ q36z_20 x1 x2 ∧ q36z_11 x1 x2 ∧ q36z_12 x1 x2 ∧ q36z_14 x1 x2 ∧ q36z_13 x1 x2 ∧
  q36z_15 x1 x2 ∧ q36z_40 ∧ q36z_41 ∧ q36z_23 x1 x2 ∧ q36z_24 x1 x2 ∧ q36z_25 x1 x2 ∧ q36z_26 x1 x2 ∧ q36z_27 x1 x2 ∧ q36z_33 x1 x2 ∧ q36z_34 x1 x2 ∧ q36z_35 x1 x2 ∧
  q36z_36 x1 x2 ∧ q36z_38 x1 x2 ∧ q36z_39 x1 x2 ∧ q36z_37 x1 x2 ∧ q36z_28 x1 x2 ∧ q36z_29 x1 x2 ∧ q36z_31 x1 x2 ∧ q36z_30 x1 x2 ∧ q36z_32 x1 x2 ∧ q36z_40 ∧
  q36z_41 ∧ q36z_42 x1 x2 ∧ ((0 : Nat) + (q36z_0 x1 - q36z_101.toNat) = q36z_0 x2 ∧ ∀ (i : Nat), i < (0 : Nat) + (q36z_0 x1 - q36z_101.toNat) → ∀ (j : Nat), j < q36z_94.size →
  ltrCell x1.w (q36z_101.toNat + (i - (0 : Nat))) j = ltrCell x2.w i j) ∧ q36z_95 x1 x2) ∧ True) ∧ True) ∧ True) ∧ True)) (q36z_91 x1 x2)) (True ∧ sw (q36z_97 x0) (q36z_2 ∧
  True ∧ sw (q36z_4 x1) (q36z_2 ∧ True ∧ sw (decide (q36z_3 x1 < (40 : Int))) (q36z_2 ∧ q36z_2 ∧ ((0 : Int) ≤ (0 : Int) ∧ (0 : Int) < q36z_3 x1) ∧ ((True ∧
  (q36z_0 x1 + (1 : Nat)) * q36z_94.bytes ≤ (140737488355328 : Nat) ∧ q36z_2 ∧ (q36z_6 x1 x2 ∧ q36z_7 x1 x2 ∧ q36z_8 x1 x2 ∧ q36z_9 x1 x2 ∧ q36z_10 x1 x2 ∧
  q36z_11 x1 x2 ∧ q36z_12 x1 x2 ∧ q36z_13 x1 x2 ∧ q36z_14 x1 x2 ∧ q36z_15 x1 x2 ∧ q36z_16 x1 x2 ∧ q36z_17 x1 x2 ∧ q36z_18 x1 x2 ∧ q36z_19 x1 x2 ∧ q36z_20 x1 x2 ∧
  q36z_21 x1 x2 ∧ q36z_22 x1 x2 ∧ q36z_23 x1 x2 ∧ q36z_24 x1 x2 ∧ q36z_25 x1 x2 ∧ q36z_26 x1 x2 ∧ q36z_27 x1 x2 ∧ q36z_28 x1 x2 ∧ q36z_29 x1 x2 ∧ q36z_30 x1 x2 ∧
  q36z_31 x1 x2 ∧ q36z_32 x1 x2 ∧ q36z_33 x1 x2 ∧ q36z_34 x1 x2 ∧ q36z_35 x1 x2 ∧ q36z_36 x1 x2 ∧ q36z_37 x1 x2 ∧ q36z_38 x1 x2 ∧ q36z_39 x1 x2 ∧ q36z_6 x1 x2 ∧
  q36z_7 x1 x2 ∧ q36z_8 x1 x2 ∧ q36z_9 x1 x2 ∧ q36z_10 x1 x2 ∧ q36z_16 x1 x2 ∧ q36z_17 x1 x2 ∧ q36z_18 x1 x2 ∧ q36z_19 x1 x2 ∧ q36z_21 x1 x2 ∧ q36z_22 x1 x2 ∧
  q36z_20 x1 x2 ∧ q36z_11 x1 x2 ∧ q36z_12 x1 x2 ∧ q36z_14 x1 x2 ∧ q36z_13 x1 x2 ∧ q36z_15 x1 x2 ∧ q36z_40 ∧ q36z_41 ∧ q36z_23 x1 x2 ∧ q36z_24 x1 x2 ∧ q36z_25 x1 x2 ∧
  q36z_26 x1 x2 ∧ q36z_27 x1 x2 ∧ q36z_33 x1 x2 ∧ q36z_34 x1 x2 ∧ q36z_35 x1 x2 ∧ q36z_36 x1 x2 ∧ q36z_38 x1 x2 ∧ q36z_39 x1 x2 ∧ q36z_37 x1 x2 ∧ q36z_28 x1 x2 ∧
  q36z_29 x1 x2 ∧ q36z_31 x1 x2 ∧ q36z_30 x1 x2 ∧ q36z_32 x1 x2 ∧ q36z_40 ∧ q36z_41 ∧ q36z_42 x1 x2 ∧ (q36z_0 x1 + (1 : Nat) = q36z_0 x2 ∧ ∀ (i : Nat), i < q36z_0 x1 + (1 : Nat) →
  ∀ (j : Nat), j < (4 : Nat) → (bif i.blt (q36z_0 x1) then ltrCell x1.w i j else [D.v (Value.int IntKind.u32 (x1.w.getD (Int.toNat (0 : Int)) noLtr).tag), D.v (Value.int IntKind.u8 (q36z_102 x1).t), D.v (Value.int IntKind.u8 (q36z_102 x1).f), D.ints IntKind.u8 (q36z_102 x1).v].getD ((i - q36z_0 x1) * q36z_94.size + j) (D.v undef)) = ltrCell x2.w i j) ∧
  q36z_99 x1 x2) ∧ True) ∧ True) ∧ True) (q36z_91 x1 x2)) (q36z_91 x1 x2)) (q36z_100 x0 x1 x2)))
@[reducible] def q36z_104 : Prop := (0 : Int) ≤ (0 : Int) ∧ (0 : Int) < (↑(2 : Nat) : Int)
@[reducible] noncomputable def q36z_105 (x0 : PrR) : Int := (↑(q36z_1 x0) : Int)
@[reducible] noncomputable def q36z_106 (x0 : PrR) : Bool := decide ((0 : Int) < q36z_105 x0)
@[reducible] def q36z_107 (x0 : PrR) (x1 : PrR) : Prop := q36z_43 x0 x1 ∧ x0.now = x1.now ∧ x0.draw = x1.draw ∧ q36z_44 ∧ x0.u = x1.u ∧ x0.t = x1.t ∧ (true && true && true) = true
@[reducible] def q36z_108 (x0 : MvR) (x1 : PrR) (x2 : PrR) : Prop := ((0 : Int) ≤ x0.k.tmod (q36z_105 x1) ∧ x0.k.tmod (q36z_105 x1) ≤ q36z_105 x1) ∧ q36z_104 ∧
  True ∧ ((0 : Int) ≤ IntKind.i64.wrap (x0.k.tmod (q36z_105 x1) + (1 : Int)) ∧ IntKind.i64.wrap (x0.k.tmod (q36z_105 x1) + (1 : Int)) ≤ q36z_105 x1) ∧ ((True ∧
  ((0 : Nat) + (x0.k.tmod (q36z_105 x1)).toNat) * q36z_94.bytes ≤ (140737488355328 : Nat) ∧ (True ∧ ((0 : Nat) + (x0.k.tmod (q36z_105 x1)).toNat + (q36z_1 x1 - (IntKind.i64.wrap (x0.k.tmod (q36z_105 x1) + (1 : Int))).toNat)) * q36z_94.bytes ≤ (140737488355328 : Nat) ∧
  q36z_104 ∧ (q36z_6 x1 x2 ∧ q36z_7 x1 x2 ∧ q36z_8 x1 x2 ∧ q36z_9 x1 x2 ∧ q36z_10 x1 x2 ∧ q36z_11 x1 x2 ∧ q36z_12 x1 x2 ∧ q36z_13 x1 x2 ∧ q36z_14 x1 x2 ∧
  q36z_15 x1 x2 ∧ q36z_16 x1 x2 ∧ q36z_17 x1 x2 ∧ q36z_18 x1 x2 ∧ q36z_19 x1 x2 ∧ q36z_20 x1 x2 ∧ q36z_21 x1 x2 ∧ q36z_22 x1 x2 ∧ q36z_23 x1 x2 ∧ q36z_24 x1 x2 ∧
  q36z_25 x1 x2 ∧ q36z_26 x1 x2 ∧ q36z_27 x1 x2 ∧ q36z_28 x1 x2 ∧ q36z_29 x1 x2 ∧ q36z_30 x1 x2 ∧ q36z_31 x1 x2 ∧ q36z_32 x1 x2 ∧ q36z_33 x1 x2 ∧ q36z_34 x1 x2 ∧
  q36z_35 x1 x2 ∧ q36z_36 x1 x2 ∧ q36z_37 x1 x2 ∧ q36z_38 x1 x2 ∧ q36z_39 x1 x2 ∧ q36z_6 x1 x2 ∧ q36z_7 x1 x2 ∧ q36z_8 x1 x2 ∧ q36z_9 x1 x2 ∧ q36z_10 x1 x2 ∧
  q36z_16 x1 x2 ∧ q36z_17 x1 x2 ∧ q36z_18 x1 x2 ∧ q36z_19 x1 x2 ∧ q36z_21 x1 x2 ∧ q36z_22 x1 x2 ∧ q36z_20 x1 x2 ∧ q36z_11 x1 x2 ∧ q36z_12 x1 x2 ∧ q36z_14 x1 x2 ∧
  q36z_13 x1 x2 ∧ q36z_15 x1 x2 ∧ q36z_40 ∧ q36z_41 ∧ q36z_23 x1 x2 ∧ q36z_24 x1 x2 ∧ q36z_25 x1 x2 ∧ q36z_26 x1 x2 ∧ q36z_27 x1 x2 ∧ q36z_33 x1 x2 ∧ q36z_34 x1 x2 ∧
  q36z_35 x1 x2 ∧ q36z_36 x1 x2 ∧ q36z_38 x1 x2 ∧ q36z_39 x1 x2 ∧ q36z_37 x1 x2 ∧ q36z_28 x1 x2 ∧ q36z_29 x1 x2 ∧ q36z_31 x1 x2 ∧ q36z_30 x1 x2 ∧ q36z_32 x1 x2 ∧
  q36z_40 ∧ q36z_41 ∧ ((0 : Nat) + (x0.k.tmod (q36z_105 x1)).toNat + (q36z_1 x1 - (IntKind.i64.wrap (x0.k.tmod (q36z_105 x1) + (1 : Int))).toNat) = q36z_1 x2 ∧
  ∀ (i : Nat), i < (0 : Nat) + (x0.k.tmod (q36z_105 x1)).toNat + (q36z_1 x1 - (IntKind.i64.wrap (x0.k.tmod (q36z_105 x1) + (1 : Int))).toNat) → ∀ (j : Nat), j < q36z_94.size →
  (bif i.blt ((0 : Nat) + (x0.k.tmod (q36z_105 x1)).toNat) then ltrCell x1.v (i - (0 : Nat)) j else ltrCell x1.v ((IntKind.i64.wrap (x0.k.tmod (q36z_105 x1) + (1 : Int))).toNat + (i - ((0 : Nat) + (x0.k.tmod (q36z_105 x1)).toNat))) j) = ltrCell x2.v i j) ∧
  q36z_107 x1 x2) ∧ True) ∧ True) ∧ True) ∧ True
@[reducible] noncomputable def q36z_109 (x0 : PrR) (x1 : MvR) : ChR := (x0.v.getD (x1.k.tmod (q36z_105 x0)).toNat noLtr).ch
@[reducible] def q36z_110 (x0 : PrR) (x1 : PrR) : Prop := q36z_43 x0 x1 ∧ x0.now = x1.now ∧ x0.draw = x1.draw ∧ q36z_44 ∧ x0.u = x1.u ∧ x0.t = x1.t ∧ (true && true && true) = true
@[reducible] def q36z_111 (x0 : MvR) (x1 : PrR) (x2 : PrR) : Prop := True ∧ sw (decide (x0.kind = (4 : Int))) False (True ∧ sw (decide (x0.kind = (5 : Int))) (True ∧
  q36z_104 ∧ q36z_104 ∧ False ∧ True) (True ∧ sw (decide (x0.kind = (6 : Int))) (q36z_104 ∧ False ∧ (False ∧ True) ∧ True) (True ∧ sw (decide (x0.kind = (7 : Int))) (q36z_104 ∧
  q36z_104 ∧ False ∧ True) (True ∧ sw (decide (x0.kind = (8 : Int))) (q36z_104 ∧ q36z_104 ∧ False ∧ True) (True ∧ sw (decide (x0.kind = (9 : Int))) False (q36z_91 x1 x2))))))
@[reducible] noncomputable def q36z_112 (x0 : PrR) : ChR := (x0.v.getD (Int.toNat (0 : Int)) noLtr).ch
@[reducible] def q36z_113 (x0 : MvR) (x1 : PrR) (x2 : PrR) : Prop := True ∧ sw (q36z_5 x0) (q36z_104 ∧ True ∧ sw (q36z_106 x1) False (q36z_91 x1 x2)) (True ∧
  sw (q36z_92 x0) (q36z_104 ∧ True ∧ sw (q36z_106 x1) (q36z_104 ∧ (q36z_104 ∧ True ∧ False ∨ ((0 : Int) ≤ (0 : Int) ∧ (0 : Int) ≤ q36z_105 x1) ∧ q36z_104 ∧
  True ∧ ((0 : Int) ≤ q36z_101 ∧ q36z_101 ≤ q36z_105 x1) ∧ ((True ∧ (0 : Nat) ≤ (140737488355328 : Nat) ∧ (True ∧ ((0 : Nat) + (q36z_1 x1 - q36z_101.toNat)) * q36z_94.bytes ≤ (140737488355328 : Nat) ∧
  q36z_104 ∧ (q36z_6 x1 x2 ∧ q36z_7 x1 x2 ∧ q36z_8 x1 x2 ∧ q36z_9 x1 x2 ∧ q36z_10 x1 x2 ∧ q36z_11 x1 x2 ∧ q36z_12 x1 x2 ∧ q36z_13 x1 x2 ∧ q36z_14 x1 x2 ∧
  q36z_15 x1 x2 ∧ q36z_16 x1 x2 ∧ q36z_17 x1 x2 ∧ q36z_18 x1 x2 ∧ q36z_19 x1 x2 ∧ q36z_20 x1 x2 ∧ q36z_21 x1 x2 ∧ q36z_22 x1 x2 ∧ q36z_23 x1 x2 ∧ q36z_24 x1 x2 ∧
  q36z_25 x1 x2 ∧ q36z_26 x1 x2 ∧ q36z_27 x1 x2 ∧ q36z_28 x1 x2 ∧ q36z_29 x1 x2 ∧ q36z_30 x1 x2 ∧ q36z_31 x1 x2 ∧ q36z_32 x1 x2 ∧ q36z_33 x1 x2 ∧ q36z_34 x1 x2 ∧
  q36z_35 x1 x2 ∧ q36z_36 x1 x2 ∧ q36z_37 x1 x2 ∧ q36z_38 x1 x2 ∧ q36z_39 x1 x2 ∧ q36z_6 x1 x2 ∧ q36z_7 x1 x2 ∧ q36z_8 x1 x2 ∧ q36z_9 x1 x2 ∧ q36z_10 x1 x2 ∧
  q36z_16 x1 x2 ∧ q36z_17 x1 x2 ∧ q36z_18 x1 x2 ∧ q36z_19 x1 x2 ∧ q36z_21 x1 x2 ∧ q36z_22 x1 x2 ∧ q36z_20 x1 x2 ∧ q36z_11 x1 x2 ∧ q36z_12 x1 x2 ∧ q36z_14 x1 x2 ∧
  q36z_13 x1 x2 ∧ q36z_15 x1 x2 ∧ q36z_40 ∧ q36z_41 ∧ q36z_23 x1 x2 ∧ q36z_24 x1 x2 ∧ q36z_25 x1 x2 ∧ q36z_26 x1 x2 ∧ q36z_27 x1 x2 ∧ q36z_33 x1 x2 ∧ q36z_34 x1 x2 ∧
  q36z_35 x1 x2 ∧ q36z_36 x1 x2 ∧ q36z_38 x1 x2 ∧ q36z_39 x1 x2 ∧ q36z_37 x1 x2 ∧ q36z_28 x1 x2 ∧ q36z_29 x1 x2 ∧ q36z_31 x1 x2 ∧ q36z_30 x1 x2 ∧ q36z_32 x1 x2 ∧
  q36z_40 ∧ q36z_41 ∧ ((0 : Nat) + (q36z_1 x1 - q36z_101.toNat) = q36z_1 x2 ∧ ∀ (i : Nat), i < (0 : Nat) + (q36z_1 x1 - q36z_101.toNat) → ∀ (j : Nat), j < q36z_94.size →
  ltrCell x1.v (q36z_101.toNat + (i - (0 : Nat))) j = ltrCell x2.v i j) ∧ q36z_107 x1 x2) ∧ True) ∧ True) ∧ True) ∧ True)) (q36z_91 x1 x2)) (True ∧ sw (q36z_97 x0) (q36z_104 ∧
  True ∧ sw (q36z_106 x1) (q36z_104 ∧ True ∧ sw (decide (q36z_105 x1 < (40 : Int))) (q36z_104 ∧ q36z_104 ∧ ((0 : Int) ≤ (0 : Int) ∧ (0 : Int) < q36z_105 x1) ∧
  ((True ∧ (q36z_1 x1 + (1 : Nat)) * q36z_94.bytes ≤ (140737488355328 : Nat) ∧ q36z_104 ∧ (q36z_6 x1 x2 ∧ q36z_7 x1 x2 ∧ q36z_8 x1 x2 ∧ q36z_9 x1 x2 ∧ q36z_10 x1 x2 ∧
  q36z_11 x1 x2 ∧ q36z_12 x1 x2 ∧ q36z_13 x1 x2 ∧ q36z_14 x1 x2 ∧ q36z_15 x1 x2 ∧ q36z_16 x1 x2 ∧ q36z_17 x1 x2 ∧ q36z_18 x1 x2 ∧ q36z_19 x1 x2 ∧ q36z_20 x1 x2 ∧
  q36z_21 x1 x2 ∧ q36z_22 x1 x2 ∧ q36z_23 x1 x2 ∧ q36z_24 x1 x2 ∧ q36z_25 x1 x2 ∧ q36z_26 x1 x2 ∧ q36z_27 x1 x2 ∧ q36z_28 x1 x2 ∧ q36z_29 x1 x2 ∧ q36z_30 x1 x2 ∧
  q36z_31 x1 x2 ∧ q36z_32 x1 x2 ∧ q36z_33 x1 x2 ∧ q36z_34 x1 x2 ∧ q36z_35 x1 x2 ∧ q36z_36 x1 x2 ∧ q36z_37 x1 x2 ∧ q36z_38 x1 x2 ∧ q36z_39 x1 x2 ∧ q36z_6 x1 x2 ∧
  q36z_7 x1 x2 ∧ q36z_8 x1 x2 ∧ q36z_9 x1 x2 ∧ q36z_10 x1 x2 ∧ q36z_16 x1 x2 ∧ q36z_17 x1 x2 ∧ q36z_18 x1 x2 ∧ q36z_19 x1 x2 ∧ q36z_21 x1 x2 ∧ q36z_22 x1 x2 ∧
  q36z_20 x1 x2 ∧ q36z_11 x1 x2 ∧ q36z_12 x1 x2 ∧ q36z_14 x1 x2 ∧ q36z_13 x1 x2 ∧ q36z_15 x1 x2 ∧ q36z_40 ∧ q36z_41 ∧ q36z_23 x1 x2 ∧ q36z_24 x1 x2 ∧ q36z_25 x1 x2 ∧
  q36z_26 x1 x2 ∧ q36z_27 x1 x2 ∧ q36z_33 x1 x2 ∧ q36z_34 x1 x2 ∧ q36z_35 x1 x2 ∧ q36z_36 x1 x2 ∧ q36z_38 x1 x2 ∧ q36z_39 x1 x2 ∧ q36z_37 x1 x2 ∧ q36z_28 x1 x2 ∧
  q36z_29 x1 x2 ∧ q36z_31 x1 x2 ∧ q36z_30 x1 x2 ∧ q36z_32 x1 x2 ∧ q36z_40 ∧ q36z_41 ∧ (q36z_1 x1 + (1 : Nat) = q36z_1 x2 ∧ ∀ (i : Nat), i < q36z_1 x1 + (1 : Nat) →
  ∀ (j : Nat), j < (4 : Nat) → (bif i.blt (q36z_1 x1) then ltrCell x1.v i j else [D.v (Value.int IntKind.u32 (x1.v.getD (Int.toNat (0 : Int)) noLtr).tag), D.v (Value.int IntKind.u8 (q36z_112 x1).t), D.v (Value.int IntKind.u8 (q36z_112 x1).f), D.ints IntKind.u8 (q36z_112 x1).v].getD ((i - q36z_1 x1) * q36z_94.size + j) (D.v undef)) = ltrCell x2.v i j) ∧
  q36z_110 x1 x2) ∧ True) ∧ True) ∧ True) (q36z_91 x1 x2)) (q36z_91 x1 x2)) (q36z_111 x0 x1 x2)))
set_option maxHeartbeats 4000000 in
theorem vc36z : ∀ (p : PrR), have y := ltrsOf (D.recs 4 (q36z_0 p) (ltrCell p.w)); have y_1 := ltrsOf (D.recs 4 (q36z_1 p) (ltrCell p.v));
  ∀ (m : MvR), have y_2 := moveF (PrR.mk p.a p.b y_1 y p.now p.draw p.u p.t) m; okP (1900 : Nat) p → m.kind ≠ (1 : Int) ∧ m.kind ≠ (2 : Int) ∧ m.kind ≠ (3 : Int) ∧
  m.kind ≠ (4 : Int) ∧ m.kind ≠ (5 : Int) ∧ m.kind ≠ (6 : Int) ∧ m.kind ≠ (7 : Int) ∧ m.kind ≠ (8 : Int) ∧ m.kind ≠ (9 : Int) → (2 : Int) ≠ (0 : Int) ∧ True ∧
  sw (!decide (m.s.tmod (2 : Int) = (0 : Int))) (q36z_2 ∧ True ∧ sw (q36z_4 p) (True ∧ sw (decide ((0 : Int) < m.k)) (q36z_2 ∧ q36z_3 p ≠ (0 : Int) ∧ True ∧
  sw (q36z_5 m) (q36z_2 ∧ True ∧ sw (q36z_4 p) False (q36z_91 p y_2)) (True ∧ sw (q36z_92 m) (q36z_2 ∧ True ∧ sw (q36z_4 p) (q36z_2 ∧ sw (decide (m.k.tmod (q36z_3 p) = (0 : Int))) (q36z_2 ∧
  True ∧ False ∨ q36z_96 m p y_2) (q36z_96 m p y_2)) (q36z_91 p y_2)) (True ∧ sw (q36z_97 m) (q36z_2 ∧ True ∧ sw (q36z_4 p) (q36z_2 ∧ True ∧ sw (decide (q36z_3 p < (40 : Int))) (q36z_2 ∧
  q36z_2 ∧ ((0 : Int) ≤ m.k.tmod (q36z_3 p) ∧ m.k.tmod (q36z_3 p) < q36z_3 p) ∧ ((True ∧ (q36z_0 p + (1 : Nat)) * q36z_94.bytes ≤ (140737488355328 : Nat) ∧
  q36z_2 ∧ (q36z_6 p y_2 ∧ q36z_7 p y_2 ∧ q36z_8 p y_2 ∧ q36z_9 p y_2 ∧ q36z_10 p y_2 ∧ q36z_11 p y_2 ∧ q36z_12 p y_2 ∧ q36z_13 p y_2 ∧ q36z_14 p y_2 ∧ q36z_15 p y_2 ∧
  q36z_16 p y_2 ∧ q36z_17 p y_2 ∧ q36z_18 p y_2 ∧ q36z_19 p y_2 ∧ q36z_20 p y_2 ∧ q36z_21 p y_2 ∧ q36z_22 p y_2 ∧ q36z_23 p y_2 ∧ q36z_24 p y_2 ∧ q36z_25 p y_2 ∧
  q36z_26 p y_2 ∧ q36z_27 p y_2 ∧ q36z_28 p y_2 ∧ q36z_29 p y_2 ∧ q36z_30 p y_2 ∧ q36z_31 p y_2 ∧ q36z_32 p y_2 ∧ q36z_33 p y_2 ∧ q36z_34 p y_2 ∧ q36z_35 p y_2 ∧
  q36z_36 p y_2 ∧ q36z_37 p y_2 ∧ q36z_38 p y_2 ∧ q36z_39 p y_2 ∧ q36z_6 p y_2 ∧ q36z_7 p y_2 ∧ q36z_8 p y_2 ∧ q36z_9 p y_2 ∧ q36z_10 p y_2 ∧ q36z_16 p y_2 ∧
  q36z_17 p y_2 ∧ q36z_18 p y_2 ∧ q36z_19 p y_2 ∧ q36z_21 p y_2 ∧ q36z_22 p y_2 ∧ q36z_20 p y_2 ∧ q36z_11 p y_2 ∧ q36z_12 p y_2 ∧ q36z_14 p y_2 ∧ q36z_13 p y_2 ∧
  q36z_15 p y_2 ∧ q36z_40 ∧ q36z_41 ∧ q36z_23 p y_2 ∧ q36z_24 p y_2 ∧ q36z_25 p y_2 ∧ q36z_26 p y_2 ∧ q36z_27 p y_2 ∧ q36z_33 p y_2 ∧ q36z_34 p y_2 ∧ q36z_35 p y_2 ∧
  q36z_36 p y_2 ∧ q36z_38 p y_2 ∧ q36z_39 p y_2 ∧ q36z_37 p y_2 ∧ q36z_28 p y_2 ∧ q36z_29 p y_2 ∧ q36z_31 p y_2 ∧ q36z_30 p y_2 ∧ q36z_32 p y_2 ∧ q36z_40 ∧
  q36z_41 ∧ q36z_42 p y_2 ∧ (q36z_0 p + (1 : Nat) = q36z_0 y_2 ∧ ∀ (i : Nat), i < q36z_0 p + (1 : Nat) → ∀ (j : Nat), j < (4 : Nat) → (bif i.blt (q36z_0 p) then ltrCell p.w i j else [D.v (Value.int IntKind.u32 (p.w.getD (m.k.tmod (q36z_3 p)).toNat noLtr).tag), D.v (Value.int IntKind.u8 (q36z_98 p m).t), D.v (Value.int IntKind.u8 (q36z_98 p m).f), D.ints IntKind.u8 (q36z_98 p m).v].getD ((i - q36z_0 p) * q36z_94.size + j) (D.v undef)) = ltrCell y_2.w i j) ∧
  q36z_99 p y_2) ∧ True) ∧ True) ∧ True) (q36z_91 p y_2)) (q36z_91 p y_2)) (q36z_100 m p y_2)))) (q36z_103 m p y_2)) (q36z_103 m p y_2)) (q36z_104 ∧ True ∧
  sw (q36z_106 p) (True ∧ sw (decide ((0 : Int) < m.k)) (q36z_104 ∧ q36z_105 p ≠ (0 : Int) ∧ True ∧ sw (q36z_5 m) (q36z_104 ∧ True ∧ sw (q36z_106 p) False (q36z_91 p y_2)) (True ∧
  sw (q36z_92 m) (q36z_104 ∧ True ∧ sw (q36z_106 p) (q36z_104 ∧ sw (decide (m.k.tmod (q36z_105 p) = (0 : Int))) (q36z_104 ∧ True ∧ False ∨ q36z_108 m p y_2) (q36z_108 m p y_2)) (q36z_91 p y_2)) (True ∧
  sw (q36z_97 m) (q36z_104 ∧ True ∧ sw (q36z_106 p) (q36z_104 ∧ True ∧ sw (decide (q36z_105 p < (40 : Int))) (q36z_104 ∧ q36z_104 ∧ ((0 : Int) ≤ m.k.tmod (q36z_105 p) ∧
  m.k.tmod (q36z_105 p) < q36z_105 p) ∧ ((True ∧ (q36z_1 p + (1 : Nat)) * q36z_94.bytes ≤ (140737488355328 : Nat) ∧ q36z_104 ∧ (q36z_6 p y_2 ∧ q36z_7 p y_2 ∧
  q36z_8 p y_2 ∧ q36z_9 p y_2 ∧ q36z_10 p y_2 ∧ q36z_11 p y_2 ∧ q36z_12 p y_2 ∧ q36z_13 p y_2 ∧ q36z_14 p y_2 ∧ q36z_15 p y_2 ∧ q36z_16 p y_2 ∧ q36z_17 p y_2 ∧
  q36z_18 p y_2 ∧ q36z_19 p y_2 ∧ q36z_20 p y_2 ∧ q36z_21 p y_2 ∧ q36z_22 p y_2 ∧ q36z_23 p y_2 ∧ q36z_24 p y_2 ∧ q36z_25 p y_2 ∧ q36z_26 p y_2 ∧ q36z_27 p y_2 ∧
  q36z_28 p y_2 ∧ q36z_29 p y_2 ∧ q36z_30 p y_2 ∧ q36z_31 p y_2 ∧ q36z_32 p y_2 ∧ q36z_33 p y_2 ∧ q36z_34 p y_2 ∧ q36z_35 p y_2 ∧ q36z_36 p y_2 ∧ q36z_37 p y_2 ∧
  q36z_38 p y_2 ∧ q36z_39 p y_2 ∧ q36z_6 p y_2 ∧ q36z_7 p y_2 ∧ q36z_8 p y_2 ∧ q36z_9 p y_2 ∧ q36z_10 p y_2 ∧ q36z_16 p y_2 ∧ q36z_17 p y_2 ∧ q36z_18 p y_2 ∧
  q36z_19 p y_2 ∧ q36z_21 p y_2 ∧ q36z_22 p y_2 ∧ q36z_20 p y_2 ∧ q36z_11 p y_2 ∧ q36z_12 p y_2 ∧ q36z_14 p y_2 ∧ q36z_13 p y_2 ∧ q36z_15 p y_2 ∧ q36z_40 ∧
  q36z_41 ∧ q36z_23 p y_2 ∧ q36z_24 p y_2 ∧ q36z_25 p y_2 ∧ q36z_26 p y_2 ∧ q36z_27 p y_2 ∧ q36z_33 p y_2 ∧ q36z_34 p y_2 ∧ q36z_35 p y_2 ∧ q36z_36 p y_2 ∧
  q36z_38 p y_2 ∧ q36z_39 p y_2 ∧ q36z_37 p y_2 ∧ q36z_28 p y_2 ∧ q36z_29 p y_2 ∧ q36z_31 p y_2 ∧ q36z_30 p y_2 ∧ q36z_32 p y_2 ∧ q36z_40 ∧ q36z_41 ∧ (q36z_1 p + (1 : Nat) = q36z_1 y_2 ∧
  ∀ (i : Nat), i < q36z_1 p + (1 : Nat) → ∀ (j : Nat), j < (4 : Nat) → (bif i.blt (q36z_1 p) then ltrCell p.v i j else [D.v (Value.int IntKind.u32 (p.v.getD (m.k.tmod (q36z_105 p)).toNat noLtr).tag), D.v (Value.int IntKind.u8 (q36z_109 p m).t), D.v (Value.int IntKind.u8 (q36z_109 p m).f), D.ints IntKind.u8 (q36z_109 p m).v].getD ((i - q36z_1 p) * q36z_94.size + j) (D.v undef)) = ltrCell y_2.v i j) ∧
  q36z_110 p y_2) ∧ True) ∧ True) ∧ True) (q36z_91 p y_2)) (q36z_91 p y_2)) (q36z_111 m p y_2)))) (q36z_113 m p y_2)) (q36z_113 m p y_2)) := by
  delta q36z_0 q36z_1 q36z_2 q36z_3 q36z_4 q36z_5 q36z_6 q36z_7 q36z_8 q36z_9 q36z_10 q36z_11 q36z_12 q36z_13 q36z_14 q36z_15 q36z_16 q36z_17 q36z_18
    q36z_19 q36z_20 q36z_21 q36z_22 q36z_23 q36z_24 q36z_25 q36z_26 q36z_27 q36z_28 q36z_29 q36z_30 q36z_31 q36z_32 q36z_33 q36z_34 q36z_35 q36z_36
    q36z_37 q36z_38 q36z_39 q36z_40 q36z_41 q36z_42 q36z_43 q36z_44
   
    false false false false false false false false false false false false false true q36z_91 q36z_92 q36z_93 q36z_94 q36z_95
    q36z_96 q36z_97 q36z_98 q36z_99 q36z_100 q36z_101 q36z_102 q36z_103 q36z_104 q36z_105 q36z_106 q36z_107 q36z_108 q36z_109 q36z_110 q36z_111 q36z_112
    q36z_113
  simp only [↓sw_iff, ↓Bool.not_eq_true', ↓Bool.not_eq_false', ↓Bool.and_eq_true, ↓decide_eq_true_eq, ↓decide_eq_false_iff_not, size150, bytes150, ltrsOf_ltrs, pr_eta']
  intro p m hp hz
  have hn := hp.len
  unfold lenP at hn
  have lw : ∀ x, (putW p 1 (wayF p 1 ++ [x])).w.length = p.w.length + 1 := fun x => List.length_append
  have lv : ∀ x, (putW p 0 (wayF p 0 ++ [x])).v.length = p.v.length + 1 := fun x => List.length_append
  have nw : (0 : Int) < (p.w.length : Int) → 0 < m.k → 0 ≤ (m.k).tmod (p.w.length : Int) := fun h h1 => by have := (tmod_nat h h1).1; omega
  have nv : (0 : Int) < (p.v.length : Int) → 0 < m.k → 0 ≤ (m.k).tmod (p.v.length : Int) := fun h h1 => by have := (tmod_nat h h1).1; omega
  have tw : (0 : Int) < (p.w.length : Int) → 0 < m.k → ((m.k).tmod (p.w.length : Int)).toNat < p.w.length := fun h h1 => (tmod_nat h h1).2.1
  have tv : (0 : Int) < (p.v.length : Int) → 0 < m.k → ((m.k).tmod (p.v.length : Int)).toNat < p.v.length := fun h h1 => (tmod_nat h h1).2.1
  repeat' (first
    | (exfalso; omega)
    | (refine (show (_ = (moveF p m).a.key) ∧ _ from ?_)
       (first | rw [mv_w' (by assumption)] | rw [mv_v' (by assumption)])
       (try (first | rw [kF_mod (by assumption) (by assumption)] | rw [kF_0 (by assumption)] | rw [kF_0' (by assumption)] | rw [kF_mod (by omega) (by omega)] | rw [kF_0 (by omega)]))
       rw [ms_z hz]
       repeat' (first | exact rfl | exact trivial | omega | exact List.length_append.symm | (intro i hi j hj; exact rfl) | exact (lw _).symm | exact (lv _).symm | exact wo_len p.w 0 (by omega) | exact wo_len p.v 0 (by omega) | exact wo_len p.w _ (tw (by omega) (by omega)) | exact wo_len p.v _ (tv (by omega) (by omega)) | (intro i hi j hj; first | exact wayD_at p.w 0 i j (by omega) | exact wayD_at p.v 0 i j (by omega) | exact wayD_at p.w _ i j (tw (by omega) (by omega)) | exact wayD_at p.v _ i j (tv (by omega) (by omega)) | exact ltr_snoc p.w _ i j (by omega) hj | exact ltr_snoc p.v _ i j (by omega) hj) | (intro i hi j hj; exact ltr_app _ _ i j) | apply And.intro))
    | exact .inr rfl
    | refine .inr ?_
    | exact rfl | exact trivial | omega | exact nw (by omega) (by omega) | exact nv (by omega) (by omega) | (have h1 := tw (by omega) (by omega); omega) | (have h1 := tv (by omega) (by omega); omega) | apply And.intro | intro _)
-- z
def movP (q : Int → Prop) : List O → Prop := fun a => ∃ p m, a = [prO p, mvO m] ∧ okP 1900 p ∧ q m.kind
def movQ (pre : List O → Prop) : Ctr := { movC with pre := pre }
def kinds (K : Int) : Prop := K = 1 ∨ K = 2 ∨ K = 3 ∨ K = 4 ∨ K = 5 ∨ K = 6 ∨ K = 7 ∨ K = 8 ∨ K = 9
def others (K : Int) : Prop := K ≠ 1 ∧ K ≠ 2 ∧ K ≠ 3 ∧ K ≠ 4 ∧ K ≠ 5 ∧ K ≠ 6 ∧ K ≠ 7 ∧ K ≠ 8 ∧ K ≠ 9
theorem ok36k : FnIs Try.prog 36 (movQ (movP kinds)) := by
  refine fnIs (C := ctrsJ Try.prog l7 iM 4) (by kernel_rfl) (cokJ (by kernel_rfl) l7_ok iM_ok) Try.func36 (code := code36) (by kernel_rfl) (by kernel_rfl) ?_
  rintro a ⟨p, ⟨K, s, k⟩, rfl, hp, hk⟩
  have hk : kinds K := hk
  rcases hk with rfl | rfl | rfl | rfl | rfl | rfl | rfl | rfl | rfl
  · exact ⟨anns [] [5, 15], kcast (vc36a p s k hp) (by kernel_rfl)⟩
  · exact ⟨anns [] [5, 15], kcast (vc36b p s k hp) (by kernel_rfl)⟩
  · exact ⟨anns [] [5, 15], kcast (vc36c p s k hp) (by kernel_rfl)⟩
  · exact ⟨anns [] [5, 15], kcast (vc36d p s k hp) (by kernel_rfl)⟩
  · exact ⟨anns [] [5, 15], kcast (vc36e p s k hp) (by kernel_rfl)⟩
  · exact ⟨anns [] [5, 15], kcast (vc36f p s k hp) (by kernel_rfl)⟩
  · exact ⟨anns [] [5, 15], kcast (vc36g p s k hp) (by kernel_rfl)⟩
  · exact ⟨anns [] [5, 15], kcast (vc36h p s k hp) (by kernel_rfl)⟩
  · exact ⟨anns [] [5, 15], kcast (vc36i p s k hp) (by kernel_rfl)⟩
theorem ok36z : FnIs Try.prog 36 (movQ (movP others)) := by
  refine fnIs (C := ctrs c0) (by kernel_rfl) c0_ok Try.func36 (code := code36) (by kernel_rfl) (by kernel_rfl) ?_
  rintro a ⟨p, m, rfl, hp, hk⟩
  exact ⟨anns [] [5, 15], kcast (vc36z p m hp hk) (by kernel_rfl)⟩
theorem ok36 : FnIs Try.prog 36 movC := by
  refine ⟨fun w A aa vs fp h1 h2 h3 h4 h5 => ?_, ok36k.2⟩
  obtain ⟨p, m, e, hp⟩ := h4
  by_cases hk : kinds m.kind
  · exact ok36k.1 w A aa vs fp h1 h2 h3 ⟨p, m, e, hp, hk⟩ h5
  · refine ok36z.1 w A aa vs fp h1 h2 h3 ⟨p, m, e, hp, ?_⟩ h5
    unfold kinds at hk
    unfold others
    omega

end Go.ZR
