/- Part 22 of what the closing text rests on. -/
import Derived.Test.YtlbfenfepmmihaaI16
import Derived.Test.YtlbfenfepmmihaaI18
import Derived.Test.YtlbfenfepmmihaaI19
import Derived.Test.YtlbfenfepmmihaaI20
import Derived.Test.YtlbfenfepmmihaaI21
import Derived.Test.YtlbfenfepmmihaaRows
namespace Go.ZR
open Go.Proofs
open Go.Z Go.ZM Go.RowKit
set_option maxRecDepth 100000
noncomputable def iR5c69 : Code := match Try.f69.body with | some c => c | none => .skip
noncomputable def iR5_69 : InlF := ⟨iR5c69, Try.f69.ntmps, Try.f69.results.toList, anns []⟩
noncomputable def iR5c70 : Code := match Try.f70.body with | some c => c | none => .skip
noncomputable def iR5_70 : InlF := ⟨iR5c70, Try.f70.ntmps, Try.f70.results.toList, anns []⟩
noncomputable def iR5c115 : Code := match Try.f115.body with | some c => c | none => .skip
noncomputable def iR5_115 : InlF := ⟨iR5c115, Try.f115.ntmps, Try.f115.results.toList, anns []⟩
noncomputable def iR5c121 : Code := match Try.f121.body with | some c => c | none => .skip
noncomputable def iR5_121 : InlF := ⟨iR5c121, Try.f121.ntmps, Try.f121.results.toList, anns []⟩
noncomputable def iR5c122 : Code := match Try.f122.body with | some c => c | none => .skip
noncomputable def iR5_122 : InlF := ⟨iR5c122, Try.f122.ntmps, Try.f122.results.toList, anns []⟩
noncomputable def iR5c157 : Code := match Try.f157.body with | some c => c | none => .skip
noncomputable def iR5_157 : InlF := ⟨iR5c157, Try.f157.ntmps, Try.f157.results.toList, anns []⟩
noncomputable def iR5c167 : Code := match Try.f167.body with | some c => c | none => .skip
noncomputable def iR5_167 : InlF := ⟨iR5c167, Try.f167.ntmps, Try.f167.results.toList, anns []⟩
noncomputable def iR5c169 : Code := match Try.f169.body with | some c => c | none => .skip
noncomputable def iR5_169 : InlF := ⟨iR5c169, Try.f169.ntmps, Try.f169.results.toList, anns []⟩
noncomputable def iR5c215 : Code := match Try.f215.body with | some c => c | none => .skip
noncomputable def iR5_215 : InlF := ⟨iR5c215, Try.f215.ntmps, Try.f215.results.toList, anns []⟩
noncomputable def iR5 : List (Nat × InlF) := [(69, iR5_69), (70, iR5_70), (115, iR5_115), (121, iR5_121), (122, iR5_122), (157, iR5_157), (167, iR5_167), (169, iR5_169), (215, iR5_215)]
theorem iR5_ok : InlsOk Try.prog iR5 := ⟨inlOk Try.func69 (by kernel_rfl) (by kernel_rfl), inlOk Try.func70 (by kernel_rfl) (by kernel_rfl), inlOk Try.func115 (by kernel_rfl) (by kernel_rfl), inlOk Try.func121 (by kernel_rfl) (by kernel_rfl), inlOk Try.func122 (by kernel_rfl) (by kernel_rfl), inlOk Try.func157 (by kernel_rfl) (by kernel_rfl), inlOk Try.func167 (by kernel_rfl) (by kernel_rfl), inlOk Try.func169 (by kernel_rfl) (by kernel_rfl), inlOk Try.func215 (by kernel_rfl) (by kernel_rfl), trivial⟩
noncomputable def code125 : Code := match Try.f125.body with | some c => c | none => .skip
@[reducible] noncomputable def q125_0 (x0 : AsR) : Bool := decide (x0.st = (0 : Int))
@[reducible] noncomputable def q125_1 (x0 : AsR) : Bool := !q125_0 x0
@[reducible] def q125_2 (x0 : Int) : Prop := SV.c (Value.int IntKind.u32 x0) = SV.c (Value.int IntKind.u32 x0)
@[reducible] def q125_3 : Prop := SV.p (1 : Nat) (0 : Nat) = SV.p (1 : Nat) (0 : Nat)
@[reducible] def q125_4 (x0 : AsR) : Prop := [q125_1 x0] = [q125_1 x0]
@[reducible] noncomputable def q125_5 (x0 : ChR) : SV := SV.c (Value.bool (decide (x0.f = (1 : Int))))
@[reducible] noncomputable def q125_6 (x0 : AsR) (x1 : ChR) : Bool := q125_1 x0 && decide (x1.f = (1 : Int))
@[reducible] def q125_7 (x0 : AsR) (x1 : ChR) : Prop := [q125_6 x0 x1] = [q125_6 x0 x1]
@[reducible] noncomputable def q125_8 (x0 : AsR) (x1 : ChR) (x2 : Int) : Bool := q125_6 x0 x1 && decide (x2 = x0.pt)
@[reducible] noncomputable def q125_9 (x0 : Int) : Bool := !decide (x0 = (0 : Int))
@[reducible] noncomputable def q125_10 (x0 : ChR) : List O := [O.agg [iO .u8 x0.t, iO .u8 x0.f, O.d (D.ints IntKind.u8 x0.v)]]
@[reducible] def q125_11 (x0 : ChR) : Prop := ∃ (c_1 : ChR), q125_10 x0 = q125_10 c_1 ∧ okB c_1.v ∧ sm c_1.v.length
@[reducible] def q125_12 (x0 : ChR) : Prop := SV.c (Value.int IntKind.i64 (toHel (ChR.mk x0.t x0.f x0.v)).snd) = SV.c (Value.int IntKind.i64 (toHel (ChR.mk x0.t x0.f x0.v)).snd)
@[reducible] noncomputable def q125_13 (x0 : ChR) : Bool := decide ((toHel (ChR.mk x0.t x0.f x0.v)).snd = (0 : Int))
@[reducible] def q125_14 (x0 : AsR) (x1 : AsR × OutR) : Prop := x0.lch.t = x1.fst.lch.t
@[reducible] def q125_15 (x0 : AsR) (x1 : AsR × OutR) : Prop := x0.lch.f = x1.fst.lch.f
@[reducible] def q125_16 (x0 : AsR) (x1 : AsR × OutR) : Prop := x0.lch.v = x1.fst.lch.v
@[reducible] def q125_17 (x0 : AsR × OutR) : Prop := x0.snd.pk.length = (0 : Nat)
@[reducible] def q125_19 (x0 : AsR) (x1 : AsR × OutR) : Prop := x0.key = x1.fst.key ∧ x0.win = x1.fst.win ∧ x0.life = x1.fst.life ∧ x0.rto = x1.fst.rto ∧
  x0.tries = x1.fst.tries ∧ x0.st = x1.fst.st ∧ x0.mt = x1.fst.mt ∧ x0.pt = x1.fst.pt ∧ x0.ms = x1.fst.ms ∧ x0.ps = x1.fst.ps ∧ x0.ltag = x1.fst.ltag ∧ q125_14 x0 x1 ∧
  q125_15 x0 x1 ∧ q125_16 x0 x1 ∧ x0.set = x1.fst.set ∧ x0.at_ = x1.fst.at_ ∧ x0.left = x1.fst.left ∧ q125_17 x1 ∧ x1.snd.ev = [] ∧ true = true
@[reducible] noncomputable def q125_20 (x0 : AsR) : Bool := decide (x0.st = (7 : Int))
@[reducible] def q125_21 (x0 : AsR × OutR) : Prop := (1 : Nat) = x0.snd.pk.length
@[reducible] noncomputable def q125_23 : Nat := Try.prog.types[150].size
@[reducible] noncomputable def q125_24 (x0 : Nat) (x1 : AsR × OutR) (x2 : Nat) : D := match x0 with | (0 : Nat) => D.v (Value.int IntKind.u32 (x1.snd.pk.getD x2 noLtr).tag) | (1 : Nat) => D.v (Value.int IntKind.u8 (x1.snd.pk.getD x2 noLtr).ch.t) | (2 : Nat) => D.v (Value.int IntKind.u8 (x1.snd.pk.getD x2 noLtr).ch.f) | _x => D.ints IntKind.u8 (x1.snd.pk.getD x2 noLtr).ch.v
@[reducible] def q125_25 (x0 : AsR × OutR) (x1 : AsR) : Prop := q125_21 x0 ∧ ∀ (i : Nat), i < (1 : Nat) → ∀ (j : Nat), j < q125_23 → [D.v (Value.int IntKind.u32 x1.ltag), D.v (Value.int IntKind.u8 x1.lch.t), D.v (Value.int IntKind.u8 x1.lch.f), D.ints IntKind.u8 x1.lch.v].getD (i * q125_23 + j) (D.v undef) = q125_24 j x0 i
@[reducible] def q125_26 (x0 : AsR × OutR) : Prop := x0.snd.ev = [] ∧ true = true
@[reducible] noncomputable def q125_27 (x0 : AsR) : Bool := decide (x0.st = (1 : Int))
@[reducible] def q125_28 (x0 : AsR) : Prop := [!q125_27 x0] = [!q125_27 x0]
@[reducible] def q125_29 (x0 : AsR) : Prop := sw (!q125_27 x0) (q125_28 x0 ∧ q125_3) True
@[reducible] def q125_30 : Prop := SV.p (1 : Nat) (5 : Nat) = SV.p (1 : Nat) (5 : Nat)
@[reducible] def q125_31 (x0 : AsR) : Prop := sw (!q125_27 x0) (q125_28 x0 ∧ q125_30) True
@[reducible] def q125_32 (x0 : AsR) : Prop := SV.c (Value.int IntKind.i64 x0.st) = SV.c (Value.int IntKind.i64 x0.st)
@[reducible] def q125_33 (x0 : AsR) : Prop := sw (!q125_27 x0) (q125_28 x0 ∧ q125_32 x0) True
@[reducible] noncomputable def q125_34 (x0 : AsR) : Bool := decide (x0.st = (2 : Int))
@[reducible] def q125_35 (x0 : AsR) : Prop := sw (!q125_27 x0) (q125_28 x0 ∧ True ∧ SV.c (Value.bool (q125_34 x0)) = SV.c (Value.bool (q125_34 x0))) True
@[reducible] noncomputable def q125_36 (x0 : AsR) : Bool := q125_27 x0 || q125_34 x0
@[reducible] noncomputable def q125_37 (x0 : AsR) : Bool := decide ((2 : Int) ≤ x0.st)
@[reducible] noncomputable def q125_38 (x0 : AsR) : O := iO .u64 x0.key
@[reducible] noncomputable def q125_39 (x0 : Int) : O := iO .i64 x0
@[reducible] noncomputable def q125_40 (x0 : AsR) : O := iO .u32 x0.mt
@[reducible] noncomputable def q125_41 (x0 : ChR) : HelR := (toHel (ChR.mk x0.t x0.f x0.v)).fst
@[reducible] noncomputable def q125_42 (x0 : ChR) : D := D.v (Value.int IntKind.u32 (q125_41 x0).tag)
@[reducible] noncomputable def q125_43 (x0 : AsR) : O := iO .u32 x0.ms
@[reducible] noncomputable def q125_44 (x0 : ChR) (x1 : AsR) : List O := [iO .u32 (q125_41 x0).tsn, iO .u32 (q125_41 x0).win, q125_40 x1, iO .u32 x1.pt]
@[reducible] noncomputable def q125_45 (x0 : CruR) : O := O.agg [iO .i64 x0.time, iO .u32 x0.a, iO .u32 x0.b, iO .u32 x0.c, iO .u32 x0.d, iO .u32 x0.e, iO .u32 x0.f, iO .u32 x0.g]
@[reducible] noncomputable def q125_46 (x0 : Int) (x1 : CruR) : List O := [iO .u64 x0, q125_45 x1]
@[reducible] noncomputable def q125_47 (x0 : AsR) : O := iO .u32 x0.win
@[reducible] noncomputable def q125_48 : O := iO .u16 (8 : Int)
@[reducible] noncomputable def q125_49 : List O := [O.d (D.v (Value.bool true))]
@[reducible] noncomputable def q125_50 (x0 : HelR) (x1 : Bool) : List O := [O.agg [iO .u32 x0.tag, iO .u32 x0.win, iO .u16 x0.out, iO .u16 x0.inn, iO .u32 x0.tsn, O.d (D.ints IntKind.u8 x0.cookie)], O.d (D.v (Value.bool x1))]
@[reducible] noncomputable def q125_51 (x0 : AsR) (x1 : Int) (x2 : ChR) : ChR := (fromHel (HelR.mk x0.mt x0.win (8 : Int) (8 : Int) x0.ms (sealF x0.key (CruR.mk x1 x0.mt (q125_41 x2).tag x0.ms (q125_41 x2).tsn (q125_41 x2).win x0.mt x0.pt)).fst) true).fst
@[reducible] def q125_52 (x0 : AsR × OutR) : Prop := x0.snd.ev = [] ∧ true = true
@[reducible] noncomputable def q125_53 (x0 : ChR) : List O := [iO .u32 (q125_41 x0).tsn, iO .u32 (q125_41 x0).win, iO .u32 (0 : Int), iO .u32 (0 : Int)]
@[reducible] noncomputable def q125_54 (x0 : AsR) (x1 : Int) (x2 : ChR) : ChR := (fromHel (HelR.mk x0.mt x0.win (8 : Int) (8 : Int) x0.ms (sealF x0.key (CruR.mk x1 x0.mt (q125_41 x2).tag x0.ms (q125_41 x2).tsn (q125_41 x2).win (0 : Int) (0 : Int))).fst) true).fst
@[reducible] def q125_55 (x0 : AsR) (x1 : Int) (x2 : ChR) (x3 : AsR × OutR) : Prop := True ∧ sw (q125_37 x0) (((∃ (k : Int), ∃ (c_1 : CruR), [q125_38 x0, O.agg (q125_39 x1 :: q125_40 x0 :: O.d (q125_42 x2) :: q125_43 x0 :: q125_44 x2 x0)] = q125_46 k c_1 ∧
  okCru c_1) ∧ True ∧ sw (decide ((sealF x0.key (CruR.mk x1 x0.mt (q125_41 x2).tag x0.ms (q125_41 x2).tsn (q125_41 x2).win x0.mt x0.pt)).snd = (0 : Int))) (((∃ (h : HelR), ∃ (b : Bool), O.agg [q125_40 x0, q125_47 x0, q125_48, q125_48, q125_43 x0, O.d (D.ints IntKind.u8 (sealF x0.key (CruR.mk x1 x0.mt (q125_41 x2).tag x0.ms (q125_41 x2).tsn (q125_41 x2).win x0.mt x0.pt)).fst)] :: q125_49 = q125_50 h b ∧
  okHel h) ∧ (((True ∧ (40 : Nat) ≤ (140737488355328 : Nat) ∧ (x0.key = x3.fst.key ∧ x0.win = x3.fst.win ∧ x0.life = x3.fst.life ∧ x0.rto = x3.fst.rto ∧ x0.tries = x3.fst.tries ∧
  x0.st = x3.fst.st ∧ x0.mt = x3.fst.mt ∧ x0.pt = x3.fst.pt ∧ x0.ms = x3.fst.ms ∧ x0.ps = x3.fst.ps ∧ x0.ltag = x3.fst.ltag ∧ q125_14 x0 x3 ∧ q125_15 x0 x3 ∧
  q125_16 x0 x3 ∧ x0.set = x3.fst.set ∧ x0.at_ = x3.fst.at_ ∧ x0.left = x3.fst.left ∧ (q125_21 x3 ∧ ∀ (i : Nat), i < (1 : Nat) → ∀ (j : Nat), j < q125_23 →
  [q125_42 x2, D.v (Value.int IntKind.u8 (q125_51 x0 x1 x2).t), D.v (Value.int IntKind.u8 (q125_51 x0 x1 x2).f), D.ints IntKind.u8 (q125_51 x0 x1 x2).v].getD (i * q125_23 + j) (D.v undef) = q125_24 j x3 i) ∧
  q125_52 x3) ∧ True) ∧ True) ∧ True) ∧ True) ∧ True) (q125_19 x0 x3)) ∧ True) (((∃ (k : Int), ∃ (c_1 : CruR), [q125_38 x0, O.agg (q125_39 x1 :: q125_40 x0 :: O.d (q125_42 x2) :: q125_43 x0 :: q125_53 x2)] = q125_46 k c_1 ∧
  okCru c_1) ∧ True ∧ sw (decide ((sealF x0.key (CruR.mk x1 x0.mt (q125_41 x2).tag x0.ms (q125_41 x2).tsn (q125_41 x2).win (0 : Int) (0 : Int))).snd = (0 : Int))) (((∃ (h : HelR), ∃ (b : Bool), O.agg [q125_40 x0, q125_47 x0, q125_48, q125_48, q125_43 x0, O.d (D.ints IntKind.u8 (sealF x0.key (CruR.mk x1 x0.mt (q125_41 x2).tag x0.ms (q125_41 x2).tsn (q125_41 x2).win (0 : Int) (0 : Int))).fst)] :: q125_49 = q125_50 h b ∧
  okHel h) ∧ (((True ∧ (40 : Nat) ≤ (140737488355328 : Nat) ∧ (x0.key = x3.fst.key ∧ x0.win = x3.fst.win ∧ x0.life = x3.fst.life ∧ x0.rto = x3.fst.rto ∧ x0.tries = x3.fst.tries ∧
  x0.st = x3.fst.st ∧ x0.mt = x3.fst.mt ∧ x0.pt = x3.fst.pt ∧ x0.ms = x3.fst.ms ∧ x0.ps = x3.fst.ps ∧ x0.ltag = x3.fst.ltag ∧ q125_14 x0 x3 ∧ q125_15 x0 x3 ∧
  q125_16 x0 x3 ∧ x0.set = x3.fst.set ∧ x0.at_ = x3.fst.at_ ∧ x0.left = x3.fst.left ∧ (q125_21 x3 ∧ ∀ (i : Nat), i < (1 : Nat) → ∀ (j : Nat), j < q125_23 →
  [q125_42 x2, D.v (Value.int IntKind.u8 (q125_54 x0 x1 x2).t), D.v (Value.int IntKind.u8 (q125_54 x0 x1 x2).f), D.ints IntKind.u8 (q125_54 x0 x1 x2).v].getD (i * q125_23 + j) (D.v undef) = q125_24 j x3 i) ∧
  q125_52 x3) ∧ True) ∧ True) ∧ True) ∧ True) ∧ True) (q125_19 x0 x3)) ∧ True)
@[reducible] noncomputable def q125_56 : O := iO .u32 (1 : Int)
@[reducible] noncomputable def q125_57 (x0 : Int) : Int := IntKind.u32.wrap ((4294967295 : Int) - x0)
@[reducible] noncomputable def q125_58 (x0 : Int) : O := iO .u32 (q125_57 x0)
@[reducible] noncomputable def q125_59 (x0 : AsR) (x1 : Int) (x2 : Int) (x3 : ChR) : ChR := (fromHel (HelR.mk (1 : Int) x0.win (8 : Int) (8 : Int) (q125_57 x1) (sealF x0.key (CruR.mk x2 (1 : Int) (q125_41 x3).tag (q125_57 x1) (q125_41 x3).tsn (q125_41 x3).win x0.mt x0.pt)).fst) true).fst
@[reducible] noncomputable def q125_60 (x0 : AsR) (x1 : Int) (x2 : Int) (x3 : ChR) : ChR := (fromHel (HelR.mk (1 : Int) x0.win (8 : Int) (8 : Int) (q125_57 x1) (sealF x0.key (CruR.mk x2 (1 : Int) (q125_41 x3).tag (q125_57 x1) (q125_41 x3).tsn (q125_41 x3).win (0 : Int) (0 : Int))).fst) true).fst
@[reducible] noncomputable def q125_61 (x0 : Int) (x1 : AsR) (x2 : Int) (x3 : ChR) : ChR := (fromHel (HelR.mk x0 x1.win (8 : Int) (8 : Int) (q125_57 x0) (sealF x1.key (CruR.mk x2 x0 (q125_41 x3).tag (q125_57 x0) (q125_41 x3).tsn (q125_41 x3).win x1.mt x1.pt)).fst) true).fst
@[reducible] noncomputable def q125_62 (x0 : Int) (x1 : AsR) (x2 : Int) (x3 : ChR) : ChR := (fromHel (HelR.mk x0 x1.win (8 : Int) (8 : Int) (q125_57 x0) (sealF x1.key (CruR.mk x2 x0 (q125_41 x3).tag (q125_57 x0) (q125_41 x3).tsn (q125_41 x3).win (0 : Int) (0 : Int))).fst) true).fst
@[reducible] noncomputable def q125_63 (x0 : AsR) (x1 : Int) : Bool := q125_1 x0 && decide (x1 = x0.mt)
@[reducible] def q125_64 (x0 : AsR) (x1 : Int) : Prop := SV.c (Value.bool (q125_63 x0 x1)) = SV.c (Value.bool (q125_63 x0 x1))
@[reducible] def q125_65 (x0 : AsR × OutR) : Prop := (0 : Int) = x0.fst.lch.f
@[reducible] def q125_66 (x0 : AsR) (x1 : ChR) : Prop := ∃ (k : Int), ∃ (b : List Int), [q125_38 x0, O.d (D.ints IntKind.u8 x1.v)] = [iO .u64 k, O.d (D.ints IntKind.u8 b)] ∧
  b.length ≤ (1048576 : Nat) ∧ okB b
@[reducible] noncomputable def q125_67 (x0 : CruR × Int) : Bool := !!decide (x0.snd = (0 : Int))
@[reducible] def q125_68 (x0 : CruR × Int) : Prop := [q125_67 x0] = [q125_67 x0]
@[reducible] def q125_69 (x0 : AsR × OutR) : Prop := (0 : Int) = x0.fst.ltag
@[reducible] def q125_70 (x0 : AsR × OutR) : Prop := (0 : Int) = x0.fst.lch.t
@[reducible] def q125_71 (x0 : AsR × OutR) : Prop := x0.fst.lch.v = []
@[reducible] def q125_72 (x0 : AsR × OutR) : Prop := false = x0.fst.set
@[reducible] noncomputable def q125_73 : List D := [D.v (Value.int IntKind.u8 (0 : Int)), D.ints IntKind.u8 []]
@[reducible] def q125_74 (x0 : AsR × OutR) (x1 : CruR × Int) : Prop := q125_21 x0 ∧ ∀ (i : Nat), i < (1 : Nat) → ∀ (j : Nat), j < q125_23 → (D.v (Value.int IntKind.u32 x1.fst.b) :: D.v (Value.int IntKind.u8 (11 : Int)) :: q125_73).getD (i * q125_23 + j) (D.v undef) = q125_24 j x0 i
@[reducible] def q125_75 : Prop := true = true
@[reducible] def q125_76 (x0 : AsR) (x1 : AsR × OutR) (x2 : CruR × Int) : Prop := ((True ∧ (40 : Nat) ≤ (140737488355328 : Nat) ∧ (True ∧ (8 : Nat) ≤ (140737488355328 : Nat) ∧
  x0.key = x1.fst.key ∧ x0.win = x1.fst.win ∧ x0.life = x1.fst.life ∧ x0.rto = x1.fst.rto ∧ x0.tries = x1.fst.tries ∧ (3 : Int) = x1.fst.st ∧ x2.fst.a = x1.fst.mt ∧
  x2.fst.b = x1.fst.pt ∧ x2.fst.c = x1.fst.ms ∧ x2.fst.d = x1.fst.ps ∧ q125_69 x1 ∧ q125_70 x1 ∧ q125_65 x1 ∧ q125_71 x1 ∧ q125_72 x1 ∧ (0 : Int) = x1.fst.at_ ∧
  (0 : Int) = x1.fst.left ∧ q125_74 x1 x2 ∧ [(1 : Int)] = x1.snd.ev ∧ q125_75) ∧ True) ∧ True) ∧ True
@[reducible] noncomputable def q125_78 (x0 : CruR × Int) (x1 : AsR) : Bool := decide (x0.fst.f = x1.mt)
@[reducible] def q125_79 (x0 : CruR × Int) (x1 : AsR) : Prop := [q125_78 x0 x1] = [q125_78 x0 x1]
@[reducible] noncomputable def q125_80 (x0 : CruR × Int) (x1 : AsR) : Bool := q125_78 x0 x1 && decide (x0.fst.g = x1.pt)
@[reducible] noncomputable def q125_81 (x0 : CruR × Int) : Bool := !decide (x0.fst.f = (0 : Int))
@[reducible] noncomputable def q125_82 (x0 : CruR × Int) (x1 : AsR) : Bool := q125_80 x0 x1 && q125_81 x0
@[reducible] noncomputable def q125_83 (x0 : CruR × Int) : Bool := !decide (x0.fst.g = (0 : Int))
@[reducible] noncomputable def q125_84 (x0 : CruR × Int) (x1 : AsR) : Bool := decide (x0.fst.a = x1.mt)
@[reducible] noncomputable def q125_85 (x0 : CruR × Int) (x1 : AsR) : Bool := decide (x0.fst.b = x1.pt)
@[reducible] noncomputable def q125_86 (x0 : CruR × Int) (x1 : AsR) : Bool := !q125_84 x0 x1 && !q125_85 x0 x1
@[reducible] def q125_87 (x0 : AsR) (x1 : AsR × OutR) (x2 : CruR × Int) : Prop := ((True ∧ (40 : Nat) ≤ (140737488355328 : Nat) ∧ (True ∧ (8 : Nat) ≤ (140737488355328 : Nat) ∧
  x0.key = x1.fst.key ∧ x0.win = x1.fst.win ∧ x0.life = x1.fst.life ∧ x0.rto = x1.fst.rto ∧ x0.tries = x1.fst.tries ∧ (3 : Int) = x1.fst.st ∧ x2.fst.a = x1.fst.mt ∧
  x2.fst.b = x1.fst.pt ∧ x2.fst.c = x1.fst.ms ∧ x2.fst.d = x1.fst.ps ∧ q125_69 x1 ∧ q125_70 x1 ∧ q125_65 x1 ∧ q125_71 x1 ∧ q125_72 x1 ∧ (0 : Int) = x1.fst.at_ ∧
  (0 : Int) = x1.fst.left ∧ q125_74 x1 x2 ∧ [(2 : Int)] = x1.snd.ev ∧ q125_75) ∧ True) ∧ True) ∧ True
@[reducible] def q125_88 (x0 : CruR × Int) (x1 : AsR) : Prop := [q125_84 x0 x1] = [q125_84 x0 x1]
@[reducible] def q125_89 (x0 : CruR × Int) (x1 : AsR) : Prop := sw (q125_84 x0 x1) (q125_88 x0 x1 ∧ SV.c (Value.bool !q125_85 x0 x1) = SV.c (Value.bool !q125_85 x0 x1)) True
@[reducible] def q125_90 (x0 : CruR × Int) (x1 : Int) (x2 : AsR) (x3 : AsR × OutR) (x4 : Int) : Prop := (True ∧ sw (q125_67 x0) (q125_2 x1) True ∧ sw (q125_67 x0) (SV.p (6 : Nat) (1 : Nat) = SV.p (6 : Nat) (1 : Nat)) True ∧
  sw (q125_67 x0) (q125_68 x0 ∧ SV.c (Value.int IntKind.u32 x0.fst.a) = SV.c (Value.int IntKind.u32 x0.fst.a)) True ∧ sw (q125_67 x0) (q125_68 x0 ∧ q125_68 x0 ∧
  True ∧ SV.c (Value.bool !decide (x1 = x0.fst.a)) = SV.c (Value.bool !decide (x1 = x0.fst.a))) True ∧ q125_68 x0 ∧ sw (!decide (x0.snd = (0 : Int)) || !decide (x1 = x0.fst.a)) (q125_19 x2 x3) ((∃ (c_1 : CruR), ∃ (n : Int), ∃ (l : Int), [O.agg [iO .i64 x0.fst.time, iO .u32 x0.fst.a, iO .u32 x0.fst.b, iO .u32 x0.fst.c, iO .u32 x0.fst.d, iO .u32 x0.fst.e, iO .u32 x0.fst.f, iO .u32 x0.fst.g], q125_39 x4, iO .i64 x2.life] = [q125_45 c_1, q125_39 n, q125_39 l] ∧
  ((-1099511627776 : Int) ≤ c_1.time ∧ c_1.time ≤ (1099511627776 : Int)) ∧ ((-1099511627776 : Int) ≤ n ∧ n ≤ (1099511627776 : Int)) ∧ (-1099511627776 : Int) ≤ l ∧
  l ≤ (1099511627776 : Int)) ∧ sw (!freshF x0.fst.time x4 x2.life) (((True ∧ (40 : Nat) ≤ (140737488355328 : Nat) ∧ (x2.key = x3.fst.key ∧ x2.win = x3.fst.win ∧
  x2.life = x3.fst.life ∧ x2.rto = x3.fst.rto ∧ x2.tries = x3.fst.tries ∧ x2.st = x3.fst.st ∧ x2.mt = x3.fst.mt ∧ x2.pt = x3.fst.pt ∧ x2.ms = x3.fst.ms ∧
  x2.ps = x3.fst.ps ∧ x2.ltag = x3.fst.ltag ∧ q125_14 x2 x3 ∧ q125_15 x2 x3 ∧ q125_16 x2 x3 ∧ x2.set = x3.fst.set ∧ x2.at_ = x3.fst.at_ ∧ x2.left = x3.fst.left ∧
  (q125_21 x3 ∧ ∀ (i : Nat), i < (1 : Nat) → ∀ (j : Nat), j < q125_23 → [D.v (Value.int IntKind.u32 x0.fst.b), D.v (Value.int IntKind.u8 (9 : Int)), D.v (Value.int IntKind.u8 (0 : Int)), D.ints IntKind.u8 [(0 : Int), (3 : Int), (0 : Int), (4 : Int)]].getD (i * q125_23 + j) (D.v undef) = q125_24 j x3 i) ∧
  q125_26 x3) ∧ True) ∧ True) ∧ True) (True ∧ sw (q125_0 x2) (q125_76 x2 x3 x0) (True ∧ sw (q125_20 x2) ((((True ∧ (40 : Nat) ≤ (140737488355328 : Nat) ∧
  (x2.key = x3.fst.key ∧ x2.win = x3.fst.win ∧ x2.life = x3.fst.life ∧ x2.rto = x3.fst.rto ∧ x2.tries = x3.fst.tries ∧ x2.st = x3.fst.st ∧ x2.mt = x3.fst.mt ∧
  x2.pt = x3.fst.pt ∧ x2.ms = x3.fst.ms ∧ x2.ps = x3.fst.ps ∧ x2.ltag = x3.fst.ltag ∧ q125_14 x2 x3 ∧ q125_15 x2 x3 ∧ q125_16 x2 x3 ∧ x2.set = x3.fst.set ∧
  x2.at_ = x3.fst.at_ ∧ x2.left = x3.fst.left ∧ q125_25 x3 x2 ∧ x3.snd.ev = [] ∧ true = true) ∧ True) ∧ True) ∧ True) ∧ True) (True ∧ sw (!q125_27 x2) q125_3 True ∧
  q125_29 x2 ∧ q125_31 x2 ∧ q125_33 x2 ∧ q125_35 x2 ∧ q125_28 x2 ∧ True ∧ True ∧ True ∧ sw (q125_78 x0 x2) (SV.p (6 : Nat) (7 : Nat) = SV.p (6 : Nat) (7 : Nat)) True ∧
  sw (q125_78 x0 x2) (q125_79 x0 x2 ∧ SV.c (Value.int IntKind.u32 x0.fst.g) = SV.c (Value.int IntKind.u32 x0.fst.g)) True ∧ sw (q125_78 x0 x2) q125_3 True ∧
  sw (q125_78 x0 x2) (q125_79 x0 x2 ∧ q125_3) True ∧ sw (q125_78 x0 x2) (q125_79 x0 x2 ∧ SV.p (1 : Nat) (7 : Nat) = SV.p (1 : Nat) (7 : Nat)) True ∧ sw (q125_78 x0 x2) (q125_79 x0 x2 ∧
  SV.c (Value.int IntKind.u32 x2.pt) = SV.c (Value.int IntKind.u32 x2.pt)) True ∧ sw (q125_78 x0 x2) (q125_79 x0 x2 ∧ q125_79 x0 x2 ∧ True ∧ SV.c (Value.bool (decide (x0.fst.g = x2.pt))) = SV.c (Value.bool (decide (x0.fst.g = x2.pt)))) True ∧
  q125_79 x0 x2 ∧ sw (q125_80 x0 x2) (SV.p (6 : Nat) (6 : Nat) = SV.p (6 : Nat) (6 : Nat)) True ∧ sw (q125_80 x0 x2) ([q125_80 x0 x2] = [q125_80 x0 x2] ∧
  SV.c (Value.int IntKind.u32 x0.fst.f) = SV.c (Value.int IntKind.u32 x0.fst.f)) True ∧ sw (q125_80 x0 x2) ([q125_80 x0 x2] = [q125_80 x0 x2] ∧ True ∧ SV.c (Value.bool (q125_81 x0)) = SV.c (Value.bool (q125_81 x0))) True ∧
  [q125_80 x0 x2] = [q125_80 x0 x2] ∧ sw (q125_82 x0 x2) (SV.p (6 : Nat) (7 : Nat) = SV.p (6 : Nat) (7 : Nat)) True ∧ sw (q125_82 x0 x2) ([q125_82 x0 x2] = [q125_82 x0 x2] ∧
  SV.c (Value.int IntKind.u32 x0.fst.g) = SV.c (Value.int IntKind.u32 x0.fst.g)) True ∧ sw (q125_82 x0 x2) ([q125_82 x0 x2] = [q125_82 x0 x2] ∧ True ∧ SV.c (Value.bool (q125_83 x0)) = SV.c (Value.bool (q125_83 x0))) True ∧
  [q125_82 x0 x2] = [q125_82 x0 x2] ∧ sw (!q125_84 x0 x2) (SV.c (Value.bool (q125_85 x0 x2)) = SV.c (Value.bool (q125_85 x0 x2))) True ∧ sw (!q125_84 x0 x2) ([!q125_84 x0 x2] = [!q125_84 x0 x2] ∧
  SV.c (Value.bool !q125_85 x0 x2) = SV.c (Value.bool !q125_85 x0 x2)) True ∧ [!q125_84 x0 x2] = [!q125_84 x0 x2] ∧ sw (q125_86 x0 x2) (SV.c (Value.bool (q125_82 x0 x2 && q125_83 x0)) = SV.c (Value.bool (q125_82 x0 x2 && q125_83 x0))) True ∧
  [q125_86 x0 x2] = [q125_86 x0 x2] ∧ sw (q125_86 x0 x2 && (q125_82 x0 x2 && q125_83 x0)) (q125_87 x2 x3 x0) (sw (q125_84 x0 x2) (SV.c (Value.bool (q125_85 x0 x2)) = SV.c (Value.bool (q125_85 x0 x2))) True ∧
  q125_89 x0 x2 ∧ q125_89 x0 x2 ∧ sw (!!q125_85 x0 x2 && q125_84 x0 x2) (SV.c (Value.bool (q125_36 x2)) = SV.c (Value.bool (q125_36 x2))) True ∧ sw (q125_84 x0 x2) (q125_88 x0 x2 ∧
  [!!q125_85 x0 x2, q125_84 x0 x2] = [!!q125_85 x0 x2, q125_84 x0 x2] ∧ SV.c (Value.bool (!q125_85 x0 x2 || q125_36 x2)) = SV.c (Value.bool (!q125_85 x0 x2 || q125_36 x2))) True ∧
  q125_88 x0 x2 ∧ sw (q125_84 x0 x2 && (!q125_85 x0 x2 || q125_36 x2)) (sw (q125_36 x2) (q125_76 x2 x3 x0) (q125_87 x2 x3 x0)) (sw (q125_84 x0 x2) (SV.c (Value.bool (q125_85 x0 x2)) = SV.c (Value.bool (q125_85 x0 x2))) True ∧
  q125_88 x0 x2 ∧ sw (q125_84 x0 x2 && q125_85 x0 x2) (((True ∧ (40 : Nat) ≤ (140737488355328 : Nat) ∧ (x2.key = x3.fst.key ∧ x2.win = x3.fst.win ∧ x2.life = x3.fst.life ∧
  x2.rto = x3.fst.rto ∧ x2.tries = x3.fst.tries ∧ x2.st = x3.fst.st ∧ x2.mt = x3.fst.mt ∧ x2.pt = x3.fst.pt ∧ x2.ms = x3.fst.ms ∧ x2.ps = x3.fst.ps ∧ x2.ltag = x3.fst.ltag ∧
  q125_14 x2 x3 ∧ q125_15 x2 x3 ∧ q125_16 x2 x3 ∧ x2.set = x3.fst.set ∧ x2.at_ = x3.fst.at_ ∧ x2.left = x3.fst.left ∧ (q125_21 x3 ∧ ∀ (i : Nat), i < (1 : Nat) →
  ∀ (j : Nat), j < q125_23 → (D.v (Value.int IntKind.u32 x2.pt) :: D.v (Value.int IntKind.u8 (11 : Int)) :: q125_73).getD (i * q125_23 + j) (D.v undef) = q125_24 j x3 i) ∧
  x3.snd.ev = [] ∧ true = true) ∧ True) ∧ True) ∧ True) (q125_19 x2 x3)))))))) ∧ True
@[reducible] noncomputable def q125_91 (x0 : AsR) (x1 : Int) : Bool := q125_34 x0 && q125_63 x0 x1
@[reducible] def q125_92 : Prop := true = true
@[reducible] def q125_93 (x0 : AsR) (x1 : Int) : Prop := [q125_91 x0 x1] = [q125_91 x0 x1]
@[reducible] noncomputable def q125_94 (x0 : ChR) : Bool := decide ((bstr x0.v).data.toList = #[(0 : UInt8), (3 : UInt8), (0 : UInt8), (4 : UInt8)].toList)
@[reducible] noncomputable def q125_95 (x0 : AsR) : ChR := (fromHel (HelR.mk x0.mt x0.win (8 : Int) (8 : Int) x0.ms []) false).fst
@[reducible] def q125_96 (x0 : AsR) (x1 : ChR) (x2 : Int) : Prop := SV.c (Value.bool (q125_8 x0 x1 x2 && q125_9 x2)) = SV.c (Value.bool (q125_8 x0 x1 x2 && q125_9 x2))
@[reducible] def q125_97 (x0 : AsR) (x1 : Int) : Prop := [q125_63 x0 x1] = [q125_63 x0 x1]
@[reducible] noncomputable def q125_98 (x0 : AsR) : Bool := decide (x0.st = (3 : Int))
@[reducible] noncomputable def q125_99 (x0 : AsR) (x1 : Int) : Bool := !q125_98 x0 && q125_63 x0 x1
@[reducible] def q125_100 (x0 : AsR) (x1 : Int) : Prop := [!q125_98 x0, q125_63 x0 x1] = [!q125_98 x0, q125_63 x0 x1]
@[reducible] noncomputable def q125_101 (x0 : AsR) : SV := SV.c (Value.bool (decide (x0.st = (4 : Int))))
@[reducible] noncomputable def q125_102 (x0 : AsR) : Bool := q125_98 x0 || decide (x0.st = (4 : Int))
@[reducible] noncomputable def q125_103 (x0 : AsR) : Bool := decide (x0.st = (5 : Int))
@[reducible] def q125_104 (x0 : AsR) (x1 : Int) : Prop := sw (q125_63 x0 x1) (q125_97 x0 x1 ∧ True ∧ SV.c (Value.bool (q125_103 x0)) = SV.c (Value.bool (q125_103 x0))) True
@[reducible] noncomputable def q125_105 (x0 : AsR) (x1 : Int) : Bool := !q125_103 x0 && q125_63 x0 x1
@[reducible] def q125_106 (x0 : AsR) (x1 : Int) : Prop := [!q125_103 x0, q125_63 x0 x1] = [!q125_103 x0, q125_63 x0 x1]
set_option maxHeartbeats 4000000 in
theorem vc125 : ∀ (s : AsR) (t : Int) (c : ChR), have y := openF s.key c.v; ∀ (w d : Int), have y_1 := recvA (AsR.mk s.key s.win s.life s.rto s.tries s.ltag (ChR.mk s.lch.t s.lch.f s.lch.v) s.at_ s.left s.set s.st s.mt s.ms s.pt s.ps) t (ChR.mk c.t c.f c.v) w d;
  okAs s → okLt t c → okNow w → okU d → True ∧ sw (q125_1 s) (q125_2 t) True ∧ sw (q125_1 s) q125_3 True ∧ sw (q125_1 s) (q125_4 s ∧ q125_3) True ∧ sw (q125_1 s) (q125_4 s ∧
  SV.p (1 : Nat) (6 : Nat) = SV.p (1 : Nat) (6 : Nat)) True ∧ sw (q125_1 s) (q125_4 s ∧ SV.c (Value.int IntKind.u32 s.mt) = SV.c (Value.int IntKind.u32 s.mt)) True ∧
  sw (q125_1 s) (q125_4 s ∧ q125_4 s ∧ True ∧ SV.c (Value.bool (decide (t = s.mt))) = SV.c (Value.bool (decide (t = s.mt)))) True ∧ q125_4 s ∧ True ∧ sw (q125_1 s) (SV.p (3 : Nat) (1 : Nat) = SV.p (3 : Nat) (1 : Nat)) True ∧
  sw (q125_1 s) (q125_4 s ∧ SV.c (Value.int IntKind.u8 c.f) = SV.c (Value.int IntKind.u8 c.f)) True ∧ sw (q125_1 s) (q125_4 s ∧ True ∧ q125_5 c = q125_5 c) True ∧
  q125_4 s ∧ sw (q125_6 s c) (q125_2 t) True ∧ sw (q125_6 s c) q125_3 True ∧ sw (q125_6 s c) (q125_7 s c ∧ q125_3) True ∧ sw (q125_6 s c) (q125_7 s c ∧ SV.p (1 : Nat) (7 : Nat) = SV.p (1 : Nat) (7 : Nat)) True ∧
  sw (q125_6 s c) (q125_7 s c ∧ SV.c (Value.int IntKind.u32 s.pt) = SV.c (Value.int IntKind.u32 s.pt)) True ∧ sw (q125_6 s c) (q125_7 s c ∧ q125_7 s c ∧ True ∧
  SV.c (Value.bool (decide (t = s.pt))) = SV.c (Value.bool (decide (t = s.pt)))) True ∧ q125_7 s c ∧ sw (q125_8 s c t) (q125_2 t) True ∧ sw (q125_8 s c t) ([q125_8 s c t] = [q125_8 s c t] ∧
  True ∧ SV.c (Value.bool (q125_9 t)) = SV.c (Value.bool (q125_9 t))) True ∧ [q125_8 s c t] = [q125_8 s c t] ∧ True ∧ sw (decide (c.t = (1 : Int))) (q125_11 c ∧
  True ∧ sw (!q125_9 t) (q125_12 c) True ∧ sw (!q125_9 t) ([!q125_9 t] = [!q125_9 t] ∧ True ∧ SV.c (Value.bool !q125_13 c) = SV.c (Value.bool !q125_13 c)) True ∧
  [!q125_9 t] = [!q125_9 t] ∧ sw (q125_9 t || !q125_13 c) (q125_19 s y_1) (True ∧ sw (q125_20 s) ((((True ∧ (40 : Nat) ≤ (140737488355328 : Nat) ∧ (s.key = y_1.fst.key ∧
  s.win = y_1.fst.win ∧ s.life = y_1.fst.life ∧ s.rto = y_1.fst.rto ∧ s.tries = y_1.fst.tries ∧ s.st = y_1.fst.st ∧ s.mt = y_1.fst.mt ∧ s.pt = y_1.fst.pt ∧
  s.ms = y_1.fst.ms ∧ s.ps = y_1.fst.ps ∧ s.ltag = y_1.fst.ltag ∧ q125_14 s y_1 ∧ q125_15 s y_1 ∧ q125_16 s y_1 ∧ s.set = y_1.fst.set ∧ s.at_ = y_1.fst.at_ ∧
  s.left = y_1.fst.left ∧ q125_25 y_1 s ∧ q125_26 y_1) ∧ True) ∧ True) ∧ True) ∧ True) (True ∧ sw (decide (d = (0 : Int))) (True ∧ True ∧ sw (!q125_27 s) q125_3 True ∧
  q125_29 s ∧ q125_31 s ∧ q125_33 s ∧ q125_35 s ∧ q125_28 s ∧ sw (q125_36 s) (q125_55 s w c y_1) (True ∧ sw (q125_37 s) (((∃ (k : Int), ∃ (c_1 : CruR), [q125_38 s, O.agg (q125_39 w :: q125_56 :: O.d (q125_42 c) :: q125_58 d :: q125_44 c s)] = q125_46 k c_1 ∧
  okCru c_1) ∧ True ∧ sw (decide ((sealF s.key (CruR.mk w (1 : Int) (q125_41 c).tag (q125_57 d) (q125_41 c).tsn (q125_41 c).win s.mt s.pt)).snd = (0 : Int))) (((∃ (h : HelR), ∃ (b : Bool), O.agg [q125_56, q125_47 s, q125_48, q125_48, q125_58 d, O.d (D.ints IntKind.u8 (sealF s.key (CruR.mk w (1 : Int) (q125_41 c).tag (q125_57 d) (q125_41 c).tsn (q125_41 c).win s.mt s.pt)).fst)] :: q125_49 = q125_50 h b ∧
  okHel h) ∧ (((True ∧ (40 : Nat) ≤ (140737488355328 : Nat) ∧ (s.key = y_1.fst.key ∧ s.win = y_1.fst.win ∧ s.life = y_1.fst.life ∧ s.rto = y_1.fst.rto ∧ s.tries = y_1.fst.tries ∧
  s.st = y_1.fst.st ∧ s.mt = y_1.fst.mt ∧ s.pt = y_1.fst.pt ∧ s.ms = y_1.fst.ms ∧ s.ps = y_1.fst.ps ∧ s.ltag = y_1.fst.ltag ∧ q125_14 s y_1 ∧ q125_15 s y_1 ∧
  q125_16 s y_1 ∧ s.set = y_1.fst.set ∧ s.at_ = y_1.fst.at_ ∧ s.left = y_1.fst.left ∧ (q125_21 y_1 ∧ ∀ (i : Nat), i < (1 : Nat) → ∀ (j : Nat), j < q125_23 →
  [q125_42 c, D.v (Value.int IntKind.u8 (q125_59 s d w c).t), D.v (Value.int IntKind.u8 (q125_59 s d w c).f), D.ints IntKind.u8 (q125_59 s d w c).v].getD (i * q125_23 + j) (D.v undef) = q125_24 j y_1 i) ∧
  q125_52 y_1) ∧ True) ∧ True) ∧ True) ∧ True) ∧ True) (q125_19 s y_1)) ∧ True) (((∃ (k : Int), ∃ (c_1 : CruR), [q125_38 s, O.agg (q125_39 w :: q125_56 :: O.d (q125_42 c) :: q125_58 d :: q125_53 c)] = q125_46 k c_1 ∧
  okCru c_1) ∧ True ∧ sw (decide ((sealF s.key (CruR.mk w (1 : Int) (q125_41 c).tag (q125_57 d) (q125_41 c).tsn (q125_41 c).win (0 : Int) (0 : Int))).snd = (0 : Int))) (((∃ (h : HelR), ∃ (b : Bool), O.agg [q125_56, q125_47 s, q125_48, q125_48, q125_58 d, O.d (D.ints IntKind.u8 (sealF s.key (CruR.mk w (1 : Int) (q125_41 c).tag (q125_57 d) (q125_41 c).tsn (q125_41 c).win (0 : Int) (0 : Int))).fst)] :: q125_49 = q125_50 h b ∧
  okHel h) ∧ (((True ∧ (40 : Nat) ≤ (140737488355328 : Nat) ∧ (s.key = y_1.fst.key ∧ s.win = y_1.fst.win ∧ s.life = y_1.fst.life ∧ s.rto = y_1.fst.rto ∧ s.tries = y_1.fst.tries ∧
  s.st = y_1.fst.st ∧ s.mt = y_1.fst.mt ∧ s.pt = y_1.fst.pt ∧ s.ms = y_1.fst.ms ∧ s.ps = y_1.fst.ps ∧ s.ltag = y_1.fst.ltag ∧ q125_14 s y_1 ∧ q125_15 s y_1 ∧
  q125_16 s y_1 ∧ s.set = y_1.fst.set ∧ s.at_ = y_1.fst.at_ ∧ s.left = y_1.fst.left ∧ (q125_21 y_1 ∧ ∀ (i : Nat), i < (1 : Nat) → ∀ (j : Nat), j < q125_23 →
  [q125_42 c, D.v (Value.int IntKind.u8 (q125_60 s d w c).t), D.v (Value.int IntKind.u8 (q125_60 s d w c).f), D.ints IntKind.u8 (q125_60 s d w c).v].getD (i * q125_23 + j) (D.v undef) = q125_24 j y_1 i) ∧
  q125_52 y_1) ∧ True) ∧ True) ∧ True) ∧ True) ∧ True) (q125_19 s y_1)) ∧ True))) (True ∧ True ∧ sw (!q125_27 s) q125_3 True ∧ q125_29 s ∧ q125_31 s ∧ q125_33 s ∧
  q125_35 s ∧ q125_28 s ∧ sw (q125_36 s) (q125_55 s w c y_1) (True ∧ sw (q125_37 s) (((∃ (k : Int), ∃ (c_1 : CruR), [q125_38 s, O.agg (q125_39 w :: iO .u32 d :: O.d (q125_42 c) :: q125_58 d :: q125_44 c s)] = q125_46 k c_1 ∧
  okCru c_1) ∧ True ∧ sw (decide ((sealF s.key (CruR.mk w d (q125_41 c).tag (q125_57 d) (q125_41 c).tsn (q125_41 c).win s.mt s.pt)).snd = (0 : Int))) (((∃ (h : HelR), ∃ (b : Bool), O.agg [iO .u32 d, q125_47 s, q125_48, q125_48, q125_58 d, O.d (D.ints IntKind.u8 (sealF s.key (CruR.mk w d (q125_41 c).tag (q125_57 d) (q125_41 c).tsn (q125_41 c).win s.mt s.pt)).fst)] :: q125_49 = q125_50 h b ∧
  okHel h) ∧ (((True ∧ (40 : Nat) ≤ (140737488355328 : Nat) ∧ (s.key = y_1.fst.key ∧ s.win = y_1.fst.win ∧ s.life = y_1.fst.life ∧ s.rto = y_1.fst.rto ∧ s.tries = y_1.fst.tries ∧
  s.st = y_1.fst.st ∧ s.mt = y_1.fst.mt ∧ s.pt = y_1.fst.pt ∧ s.ms = y_1.fst.ms ∧ s.ps = y_1.fst.ps ∧ s.ltag = y_1.fst.ltag ∧ q125_14 s y_1 ∧ q125_15 s y_1 ∧
  q125_16 s y_1 ∧ s.set = y_1.fst.set ∧ s.at_ = y_1.fst.at_ ∧ s.left = y_1.fst.left ∧ (q125_21 y_1 ∧ ∀ (i : Nat), i < (1 : Nat) → ∀ (j : Nat), j < q125_23 →
  [q125_42 c, D.v (Value.int IntKind.u8 (q125_61 d s w c).t), D.v (Value.int IntKind.u8 (q125_61 d s w c).f), D.ints IntKind.u8 (q125_61 d s w c).v].getD (i * q125_23 + j) (D.v undef) = q125_24 j y_1 i) ∧
  q125_52 y_1) ∧ True) ∧ True) ∧ True) ∧ True) ∧ True) (q125_19 s y_1)) ∧ True) (((∃ (k : Int), ∃ (c_1 : CruR), [q125_38 s, O.agg (q125_39 w :: iO .u32 d :: O.d (q125_42 c) :: q125_58 d :: q125_53 c)] = q125_46 k c_1 ∧
  okCru c_1) ∧ True ∧ sw (decide ((sealF s.key (CruR.mk w d (q125_41 c).tag (q125_57 d) (q125_41 c).tsn (q125_41 c).win (0 : Int) (0 : Int))).snd = (0 : Int))) (((∃ (h : HelR), ∃ (b : Bool), O.agg [iO .u32 d, q125_47 s, q125_48, q125_48, q125_58 d, O.d (D.ints IntKind.u8 (sealF s.key (CruR.mk w d (q125_41 c).tag (q125_57 d) (q125_41 c).tsn (q125_41 c).win (0 : Int) (0 : Int))).fst)] :: q125_49 = q125_50 h b ∧
  okHel h) ∧ (((True ∧ (40 : Nat) ≤ (140737488355328 : Nat) ∧ (s.key = y_1.fst.key ∧ s.win = y_1.fst.win ∧ s.life = y_1.fst.life ∧ s.rto = y_1.fst.rto ∧ s.tries = y_1.fst.tries ∧
  s.st = y_1.fst.st ∧ s.mt = y_1.fst.mt ∧ s.pt = y_1.fst.pt ∧ s.ms = y_1.fst.ms ∧ s.ps = y_1.fst.ps ∧ s.ltag = y_1.fst.ltag ∧ q125_14 s y_1 ∧ q125_15 s y_1 ∧
  q125_16 s y_1 ∧ s.set = y_1.fst.set ∧ s.at_ = y_1.fst.at_ ∧ s.left = y_1.fst.left ∧ (q125_21 y_1 ∧ ∀ (i : Nat), i < (1 : Nat) → ∀ (j : Nat), j < q125_23 →
  [q125_42 c, D.v (Value.int IntKind.u8 (q125_62 d s w c).t), D.v (Value.int IntKind.u8 (q125_62 d s w c).f), D.ints IntKind.u8 (q125_62 d s w c).v].getD (i * q125_23 + j) (D.v undef) = q125_24 j y_1 i) ∧
  q125_52 y_1) ∧ True) ∧ True) ∧ True) ∧ True) ∧ True) (q125_19 s y_1)) ∧ True)))))) (True ∧ sw (decide (c.t = (2 : Int))) (q125_11 c ∧ True ∧ sw (q125_27 s) (q125_64 s t) True ∧
  [q125_27 s] = [q125_27 s] ∧ sw (q125_27 s && q125_63 s t) (q125_12 c) True ∧ sw (q125_27 s && q125_63 s t) ([q125_27 s && q125_63 s t] = [q125_27 s && q125_63 s t] ∧
  True ∧ SV.c (Value.bool (q125_13 c)) = SV.c (Value.bool (q125_13 c))) True ∧ [q125_27 s && q125_63 s t] = [q125_27 s && q125_63 s t] ∧ sw (q125_27 s && q125_63 s t && q125_13 c) (((True ∧
  (40 : Nat) ≤ (140737488355328 : Nat) ∧ (True ∧ s.key = y_1.fst.key ∧ s.win = y_1.fst.win ∧ s.life = y_1.fst.life ∧ s.rto = y_1.fst.rto ∧ s.tries = y_1.fst.tries ∧
  (2 : Int) = y_1.fst.st ∧ s.mt = y_1.fst.mt ∧ (q125_41 c).tag = y_1.fst.pt ∧ s.ms = y_1.fst.ms ∧ (q125_41 c).tsn = y_1.fst.ps ∧ (q125_41 c).tag = y_1.fst.ltag ∧
  (10 : Int) = y_1.fst.lch.t ∧ q125_65 y_1 ∧ (q125_41 c).cookie = y_1.fst.lch.v ∧ true = y_1.fst.set ∧ IntKind.i64.wrap (w + s.rto) = y_1.fst.at_ ∧ s.tries = y_1.fst.left ∧
  (q125_21 y_1 ∧ ∀ (i : Nat), i < (1 : Nat) → ∀ (j : Nat), j < q125_23 → [q125_42 c, D.v (Value.int IntKind.u8 (10 : Int)), D.v (Value.int IntKind.u8 (0 : Int)), D.ints IntKind.u8 (q125_41 c).cookie].getD (i * q125_23 + j) (D.v undef) = q125_24 j y_1 i) ∧
  q125_26 y_1) ∧ True) ∧ True) ∧ True) (q125_19 s y_1)) (True ∧ sw (decide (c.t = (10 : Int))) ((q125_66 s c ∧ q125_90 y t s y_1 w ∧ True) ∧ ((q125_66 s c ∧
  q125_90 y t s y_1 w) ∧ True) ∧ True) (True ∧ sw (decide (c.t = (11 : Int))) (True ∧ sw (q125_34 s) (q125_64 s t) True ∧ [q125_34 s] = [q125_34 s] ∧ sw (q125_91 s t) (True ∧
  (8 : Nat) ≤ (140737488355328 : Nat) ∧ s.key = y_1.fst.key ∧ s.win = y_1.fst.win ∧ s.life = y_1.fst.life ∧ s.rto = y_1.fst.rto ∧ s.tries = y_1.fst.tries ∧
  (3 : Int) = y_1.fst.st ∧ s.mt = y_1.fst.mt ∧ s.pt = y_1.fst.pt ∧ s.ms = y_1.fst.ms ∧ s.ps = y_1.fst.ps ∧ q125_69 y_1 ∧ q125_70 y_1 ∧ q125_65 y_1 ∧ q125_71 y_1 ∧
  q125_72 y_1 ∧ (0 : Int) = y_1.fst.at_ ∧ (0 : Int) = y_1.fst.left ∧ q125_17 y_1 ∧ [(1 : Int)] = y_1.snd.ev ∧ q125_92) (q125_19 s y_1)) (True ∧ sw (decide (c.t = (9 : Int))) (True ∧
  sw (q125_34 s) (q125_64 s t) True ∧ [q125_34 s] = [q125_34 s] ∧ sw (q125_91 s t) (SV.p (3 : Nat) (2 : Nat) = SV.p (3 : Nat) (2 : Nat)) True ∧ sw (q125_91 s t) (q125_93 s t ∧
  SV.a (2 : Nat) = SV.a (2 : Nat)) True ∧ sw (q125_91 s t) (q125_93 s t ∧ SV.c (Value.string (bstr c.v)) = SV.c (Value.string (bstr c.v))) True ∧ sw (q125_91 s t) (q125_93 s t ∧
  True ∧ SV.c (Value.bool (q125_94 c)) = SV.c (Value.bool (q125_94 c))) True ∧ q125_93 s t ∧ sw (q125_91 s t && q125_94 c) (((∃ (h : HelR), ∃ (b : Bool), [O.agg [q125_40 s, q125_47 s, q125_48, q125_48, q125_43 s, O.d (D.ints IntKind.u8 [])], O.d (D.v (Value.bool false))] = q125_50 h b ∧
  okHel h) ∧ (((True ∧ (40 : Nat) ≤ (140737488355328 : Nat) ∧ (True ∧ s.key = y_1.fst.key ∧ s.win = y_1.fst.win ∧ s.life = y_1.fst.life ∧ s.rto = y_1.fst.rto ∧
  s.tries = y_1.fst.tries ∧ (1 : Int) = y_1.fst.st ∧ s.mt = y_1.fst.mt ∧ (0 : Int) = y_1.fst.pt ∧ s.ms = y_1.fst.ms ∧ (0 : Int) = y_1.fst.ps ∧ q125_69 y_1 ∧
  (q125_95 s).t = y_1.fst.lch.t ∧ (q125_95 s).f = y_1.fst.lch.f ∧ (q125_95 s).v = y_1.fst.lch.v ∧ true = y_1.fst.set ∧ IntKind.i64.wrap (w + s.rto) = y_1.fst.at_ ∧
  s.tries = y_1.fst.left ∧ (q125_21 y_1 ∧ ∀ (i : Nat), i < (1 : Nat) → ∀ (j : Nat), j < q125_23 → [D.v (Value.int IntKind.u32 (0 : Int)), D.v (Value.int IntKind.u8 (q125_95 s).t), D.v (Value.int IntKind.u8 (q125_95 s).f), D.ints IntKind.u8 (q125_95 s).v].getD (i * q125_23 + j) (D.v undef) = q125_24 j y_1 i) ∧
  y_1.snd.ev = [] ∧ true = true) ∧ True) ∧ True) ∧ True) ∧ True) ∧ True) (q125_19 s y_1)) (True ∧
  sw (decide (c.t = (6 : Int))) (sw (!q125_63 s t) (q125_96 s c t) True ∧ [!q125_63 s t] = [!q125_63 s t] ∧ sw (q125_63 s t || q125_8 s c t && q125_9 t) (True ∧
  True ∧ (8 : Nat) ≤ (140737488355328 : Nat) ∧ IntKind.u64.wrap (s.key + (1 : Int)) = y_1.fst.key ∧ s.win = y_1.fst.win ∧ s.life = y_1.fst.life ∧ s.rto = y_1.fst.rto ∧
  s.tries = y_1.fst.tries ∧ (0 : Int) = y_1.fst.st ∧ (0 : Int) = y_1.fst.mt ∧ (0 : Int) = y_1.fst.pt ∧ (0 : Int) = y_1.fst.ms ∧ (0 : Int) = y_1.fst.ps ∧ q125_69 y_1 ∧
  q125_70 y_1 ∧ q125_65 y_1 ∧ q125_71 y_1 ∧ q125_72 y_1 ∧ (0 : Int) = y_1.fst.at_ ∧ (0 : Int) = y_1.fst.left ∧ q125_17 y_1 ∧ [(3 : Int)] = y_1.snd.ev ∧ q125_92) (q125_19 s y_1)) (True ∧
  sw (decide (c.t = (7 : Int))) (sw (q125_63 s t) q125_3 True ∧ sw (q125_63 s t) (q125_97 s t ∧ q125_3) True ∧ sw (q125_63 s t) (q125_97 s t ∧ q125_30) True ∧
  sw (q125_63 s t) (q125_97 s t ∧ q125_32 s) True ∧ sw (q125_63 s t) (q125_97 s t ∧ True ∧ SV.c (Value.bool (q125_98 s)) = SV.c (Value.bool (q125_98 s))) True ∧
  sw (q125_63 s t) (q125_97 s t ∧ SV.c (Value.bool (q125_98 s)) = SV.c (Value.bool (q125_98 s))) True ∧ sw (q125_99 s t) q125_3 True ∧ sw (q125_99 s t) (q125_100 s t ∧
  q125_3) True ∧ sw (q125_99 s t) (q125_100 s t ∧ q125_30) True ∧ sw (q125_99 s t) (q125_100 s t ∧ q125_32 s) True ∧ sw (q125_99 s t) (q125_100 s t ∧ True ∧
  q125_101 s = q125_101 s) True ∧ sw (q125_63 s t) (q125_97 s t ∧ q125_100 s t ∧ SV.c (Value.bool (q125_102 s)) = SV.c (Value.bool (q125_102 s))) True ∧ q125_97 s t ∧
  sw (q125_63 s t && q125_102 s) (s.key = y_1.fst.key ∧ s.win = y_1.fst.win ∧ s.life = y_1.fst.life ∧ s.rto = y_1.fst.rto ∧ s.tries = y_1.fst.tries ∧ (6 : Int) = y_1.fst.st ∧
  s.mt = y_1.fst.mt ∧ s.pt = y_1.fst.pt ∧ s.ms = y_1.fst.ms ∧ s.ps = y_1.fst.ps ∧ q125_69 y_1 ∧ q125_70 y_1 ∧ q125_65 y_1 ∧ q125_71 y_1 ∧ q125_72 y_1 ∧ (0 : Int) = y_1.fst.at_ ∧
  (0 : Int) = y_1.fst.left ∧ q125_17 y_1 ∧ y_1.snd.ev = [] ∧ true = true) (sw (q125_63 s t) q125_3 True ∧ sw (q125_63 s t) (q125_97 s t ∧ q125_3) True ∧
  sw (q125_63 s t) (q125_97 s t ∧ q125_30) True ∧ sw (q125_63 s t) (q125_97 s t ∧ q125_32 s) True ∧ q125_104 s t ∧ q125_97 s t ∧ sw (q125_63 s t && q125_103 s) (((True ∧
  (40 : Nat) ≤ (140737488355328 : Nat) ∧ (True ∧ s.key = y_1.fst.key ∧ s.win = y_1.fst.win ∧ s.life = y_1.fst.life ∧ s.rto = y_1.fst.rto ∧ s.tries = y_1.fst.tries ∧
  (7 : Int) = y_1.fst.st ∧ s.mt = y_1.fst.mt ∧ s.pt = y_1.fst.pt ∧ s.ms = y_1.fst.ms ∧ s.ps = y_1.fst.ps ∧ s.pt = y_1.fst.ltag ∧ (8 : Int) = y_1.fst.lch.t ∧
  q125_65 y_1 ∧ q125_71 y_1 ∧ true = y_1.fst.set ∧ IntKind.i64.wrap (w + s.rto) = y_1.fst.at_ ∧ s.tries = y_1.fst.left ∧ (q125_21 y_1 ∧ ∀ (i : Nat), i < (1 : Nat) →
  ∀ (j : Nat), j < q125_23 → (D.v (Value.int IntKind.u32 s.pt) :: D.v (Value.int IntKind.u8 (8 : Int)) :: q125_73).getD (i * q125_23 + j) (D.v undef) = q125_24 j y_1 i) ∧
  y_1.snd.ev = [] ∧ true = true) ∧ True) ∧ True) ∧ True) (q125_19 s y_1))) (True ∧ sw (decide (c.t = (8 : Int))) (True ∧
  sw (q125_0 s) (((True ∧ (40 : Nat) ≤ (140737488355328 : Nat) ∧ (s.key = y_1.fst.key ∧ s.win = y_1.fst.win ∧ s.life = y_1.fst.life ∧ s.rto = y_1.fst.rto ∧
  s.tries = y_1.fst.tries ∧ s.st = y_1.fst.st ∧ s.mt = y_1.fst.mt ∧ s.pt = y_1.fst.pt ∧ s.ms = y_1.fst.ms ∧ s.ps = y_1.fst.ps ∧ s.ltag = y_1.fst.ltag ∧ q125_14 s y_1 ∧
  q125_15 s y_1 ∧ q125_16 s y_1 ∧ s.set = y_1.fst.set ∧ s.at_ = y_1.fst.at_ ∧ s.left = y_1.fst.left ∧ (q125_21 y_1 ∧ ∀ (i : Nat), i < (1 : Nat) → ∀ (j : Nat), j < q125_23 →
  [D.v (Value.int IntKind.u32 t), D.v (Value.int IntKind.u8 (14 : Int)), D.v (Value.int IntKind.u8 (1 : Int)), D.ints IntKind.u8 []].getD (i * q125_23 + j) (D.v undef) = q125_24 j y_1 i) ∧
  y_1.snd.ev = [] ∧ true = true) ∧ True) ∧ True) ∧ True) (sw (q125_63 s t) q125_3 True ∧ sw (q125_63 s t) (q125_97 s t ∧
  q125_3) True ∧ sw (q125_63 s t) (q125_97 s t ∧ q125_30) True ∧ sw (q125_63 s t) (q125_97 s t ∧ q125_32 s) True ∧ q125_104 s t ∧ sw (q125_63 s t) (q125_97 s t ∧
  SV.c (Value.bool (q125_103 s)) = SV.c (Value.bool (q125_103 s))) True ∧ sw (q125_105 s t) q125_3 True ∧ sw (q125_105 s t) (q125_106 s t ∧ q125_3) True ∧
  sw (q125_105 s t) (q125_106 s t ∧ q125_30) True ∧ sw (q125_105 s t) (q125_106 s t ∧ q125_32 s) True ∧ sw (q125_105 s t) (q125_106 s t ∧ True ∧ SV.c (Value.bool (q125_20 s)) = SV.c (Value.bool (q125_20 s))) True ∧
  sw (q125_63 s t) (q125_97 s t ∧ q125_106 s t ∧ SV.c (Value.bool (q125_103 s || q125_20 s)) = SV.c (Value.bool (q125_103 s || q125_20 s))) True ∧ q125_97 s t ∧
  sw (q125_63 s t && (q125_103 s || q125_20 s)) (((True ∧ (40 : Nat) ≤ (140737488355328 : Nat) ∧ (True ∧ True ∧ (8 : Nat) ≤ (140737488355328 : Nat) ∧ IntKind.u64.wrap (s.key + (1 : Int)) = y_1.fst.key ∧
  s.win = y_1.fst.win ∧ s.life = y_1.fst.life ∧ s.rto = y_1.fst.rto ∧ s.tries = y_1.fst.tries ∧ (0 : Int) = y_1.fst.st ∧ (0 : Int) = y_1.fst.mt ∧ (0 : Int) = y_1.fst.pt ∧
  (0 : Int) = y_1.fst.ms ∧ (0 : Int) = y_1.fst.ps ∧ q125_69 y_1 ∧ q125_70 y_1 ∧ q125_65 y_1 ∧ q125_71 y_1 ∧ q125_72 y_1 ∧ (0 : Int) = y_1.fst.at_ ∧ (0 : Int) = y_1.fst.left ∧
  (q125_21 y_1 ∧ ∀ (i : Nat), i < (1 : Nat) → ∀ (j : Nat), j < q125_23 → (D.v (Value.int IntKind.u32 s.pt) :: D.v (Value.int IntKind.u8 (14 : Int)) :: q125_73).getD (i * q125_23 + j) (D.v undef) = q125_24 j y_1 i) ∧
  [(4 : Int)] = y_1.snd.ev ∧ true = true) ∧ True) ∧ True) ∧ True) (q125_19 s y_1))) (True ∧ sw (decide (c.t = (14 : Int))) (True ∧
  sw (q125_20 s) (q125_64 s t) True ∧ sw (q125_20 s) ([q125_20 s] = [q125_20 s] ∧ q125_64 s t) True ∧ sw (!q125_63 s t && q125_20 s) (q125_96 s c t) True ∧
  sw (q125_20 s) ([q125_20 s] = [q125_20 s] ∧ [!q125_63 s t, q125_20 s] = [!q125_63 s t, q125_20 s] ∧ SV.c (Value.bool (q125_63 s t || q125_8 s c t && q125_9 t)) = SV.c (Value.bool (q125_63 s t || q125_8 s c t && q125_9 t))) True ∧
  [q125_20 s] = [q125_20 s] ∧ sw (q125_20 s && (q125_63 s t || q125_8 s c t && q125_9 t)) (True ∧ True ∧ (8 : Nat) ≤ (140737488355328 : Nat) ∧ IntKind.u64.wrap (s.key + (1 : Int)) = y_1.fst.key ∧
  s.win = y_1.fst.win ∧ s.life = y_1.fst.life ∧ s.rto = y_1.fst.rto ∧ s.tries = y_1.fst.tries ∧ (0 : Int) = y_1.fst.st ∧ (0 : Int) = y_1.fst.mt ∧ (0 : Int) = y_1.fst.pt ∧
  (0 : Int) = y_1.fst.ms ∧ (0 : Int) = y_1.fst.ps ∧ q125_69 y_1 ∧ q125_70 y_1 ∧ q125_65 y_1 ∧ q125_71 y_1 ∧ q125_72 y_1 ∧ (0 : Int) = y_1.fst.at_ ∧ (0 : Int) = y_1.fst.left ∧
  q125_17 y_1 ∧ [(4 : Int)] = y_1.snd.ev ∧ q125_92) (q125_19 s y_1)) (q125_19 s y_1))))))))) := by
  delta q125_0 q125_1 q125_2 q125_3 q125_4 q125_5 q125_6 q125_7 q125_8 q125_9 q125_10 q125_11 q125_12 q125_13 q125_14 q125_15 q125_16 q125_17 q125_19
    q125_20 q125_21 q125_23 q125_24 q125_25 q125_26 q125_27 q125_28 q125_29 q125_30 q125_31 q125_32 q125_33 q125_34 q125_35 q125_36 q125_37 q125_38
    q125_39 q125_40 q125_41 q125_42 q125_43 q125_44 q125_45 q125_46 q125_47 q125_48 q125_49 q125_50 q125_51 q125_52 q125_53 q125_54 q125_55 q125_56
    q125_57 q125_58 q125_59 q125_60 q125_61 q125_62 q125_63 q125_64 q125_65 q125_66 q125_67 q125_68 q125_69 q125_70 q125_71 q125_72 q125_73 q125_74
    q125_75 q125_76 q125_78 q125_79 q125_80 q125_81 q125_82 q125_83 q125_84 q125_85 q125_86 q125_87 q125_88 q125_89 q125_90 q125_91 q125_92 q125_93
    q125_94 q125_95 q125_96 q125_97 q125_98 q125_99 q125_100 q125_101 q125_102 q125_103 q125_104 q125_105 q125_106 iO
  simp only [↓sw_iff, ↓Bool.and_eq_true, ↓Bool.and_eq_false_iff, ↓decide_eq_true_eq, ↓decide_eq_false_iff_not, ↓Bool.not_eq_true', ↓Bool.not_eq_false', true_and, and_true, implies_true, as_eta, size150, wrap_key]
  simp only [Bool.or_eq_true, Bool.or_eq_false_iff, Bool.and_eq_true, decide_eq_true_eq, decide_eq_false_iff_not, Bool.not_eq_true', Bool.not_eq_false', Bool.and_eq_false_iff]
  intro s t c w d hs hc hw hd
  have c_eta : ChR.mk c.t c.f c.v = c := rfl
  have wd : IntKind.u32.wrap (4294967295 - d) = 4294967295 - d := by rw [IntKind.wrap_u32]; unfold okU at hd; omega
  simp only [c_eta, wrap_rto hs hw, wd, bstr_eq hc.2.1.2.2]
  generalize e : recvA s t c w d = r
  have hv := sm_lch hs
  have hcv : sm c.v.length := by have := hc.2.2; unfold sm; omega
  have hcB := hc.2.1.2.2
  have hth := toHel_okHel hcB hcv
  have hop := open_okCru (k := s.key) hcB
  have hlife := hs.life
  have hz : s.st ≠ 0 ∨ (s.mt = 0 ∧ s.ms = 0 ∧ s.pt = 0 ∧ s.ps = 0) := by
    by_cases h : s.st = 0
    · obtain ⟨z1, z2, z3, z4, _⟩ := hs.zero h
      exact .inr ⟨z1, z2, z3, z4⟩
    · exact .inl h
  have hst := hs.st
  unfold recvA at e
  repeat' (first
    | (refine (show (_ = r.fst.key) ∧ _ from ?_)
       (try (rename d = 0 => hd0; subst hd0))
       (try simp only [Int.sub_zero] at *)
       simp only [*, mineA, theirsA, calledA, echoedA, crumbA, numT, numS, drawT, not_true, not_false_eq_true, and_true, true_and, and_false, false_and, or_true, true_or, or_false, false_or, ne_eq, reduceCtorEq, Int.reduceEq, Int.reduceSub, if_pos, if_neg] at e
       (repeat (first | rw [if_pos (by omega)] at e | rw [if_neg (by omega)] at e | rw [if_neg (by intro hh; simp_all; done)] at e))
       subst e
       repeat' (first | exact rfl | exact cells1 rfl rfl rfl rfl | exact cells0 | omega | apply And.intro))
    | exact ⟨c, rfl, hcB, hcv⟩
    | exact ⟨_, _, rfl, by have := hc.2.2; omega, hcB⟩
    | exact ⟨(openF s.key c.v).1, _, _, rfl, by omega, hw, by omega⟩
    | exact ⟨_, ⟨_, _, _, _, _, _, _, _⟩, rfl, cru_ok hw (by first | exact hs.mt | exact okU1 | exact hd) hth.1 (by first | exact hs.ms | exact okU_sub hd) hth.2.2.2.2.1 hth.2.1 (by first | exact hs.mt | exact okU0) (by first | exact hs.pt | exact okU0)⟩
    | exact ⟨_, _, rfl, hel_ok8 (by first | exact hs.mt | exact okU1 | exact hd) hs.win (by first | exact hs.ms | exact okU_sub hd) (by first | exact (seal_ok _ _).1 | simp [okB]) (by first | exact (seal_ok _ _).2 | simp)⟩
    | omega
    | apply And.intro
    | intro _)
set_option maxRecDepth 100000 in
theorem ok125 : FnIs Try.prog 125 (recvRC rfO outW) := by
  refine fnIs (C := (ctrsJ Try.prog l2 iR5 5)) (by kernel_rfl) (cokJ (by kernel_rfl) l2_ok iR5_ok) Try.func125 (code := code125) (by kernel_rfl) (by kernel_rfl) ?_
  rintro a ⟨s, t, c, w, d, rfl, hs, hc, hw, hd⟩
  exact ⟨anns [], kcast (vc125 s t c w d hs hc hw hd) (by kernel_rfl)⟩

end Go.ZR

set_option maxRecDepth 100000
namespace Go.Z
theorem toO_own {T es n : Nat} {f g : Nat → Nat → D} (h : ∀ i, i < n → ∀ j, j < es → f i j = g i j) : toO (.own T (.recs es n f)) (.own T (.recs es n g)) := fun X w v fp ho => by
  simp only [O.holds] at ho ⊢
  obtain ⟨L, h1, h2, h3, h4⟩ := ho
  obtain ⟨g1, g2, g3⟩ := h3
  exact ⟨L, h1, h2, ⟨g1, g2, fun i hi j hj => by rw [← h i hi j hj]; exact g3 i hi j hj⟩, h4⟩
theorem toO_ptr {T : Nat} {l l' : List O} (t : toL l l') : toO (.ptr T l) (.ptr T l') := fun X w v f ho => by
  simp only [O.holds] at ho ⊢
  obtain ⟨b, us, f', h1, h2, h3, h4⟩ := ho
  exact ⟨b, us, f', h1, h2, h3, t _ _ _ _ h4⟩
end Go.Z
namespace Go.ZM
open Go.Z Go.ZR
theorem asLt_to {A : D} {l : List LtrR} (h : asLt A l) : toO (.own 150 A) (wyO l) := by
  obtain ⟨_, f, rfl, h2⟩ := h
  exact toO_own h2
theorem prL_to {p : PrR} {A B : D} (hA : asLt A p.v) (hB : asLt B p.w) : toO (.ptr 59 (prL p (.own 150 A) (.own 150 B))) (prO p) :=
  toO_ptr (toL_cons (toO_refl _) (toL_cons (toO_refl _) (toL_cons (toO_refl _) (toL_cons (toO_refl _) (toL_cons (asLt_to hA) (toL_cons (asLt_to hB) (toL_refl _)))))))
theorem prOf_of {p : PrR} {A B : D} (hA : asLt A p.v) (hB : asLt B p.w) : prOf (.ptr 59 (prL p (.own 150 A) (.own 150 B))) = p := by
  show PrR.mk p.a p.b (ltrsOf A) (ltrsOf B) p.now p.draw p.u p.t = p
  rw [hA.1, hB.1]
theorem prOf_self (p : PrR) : prOf (prO p) = p := prOf_of (asLt_self p.v) (asLt_self p.w)
end Go.ZM
namespace Go.ZR
open Go.Z Go.ZM Go.Proofs
theorem ok31w : FnIs Try.prog 31 saidC := ok31.weak fun a ha => by
  obtain ⟨p, s, o, A, B, rfl, hs, hA, hB, hp, ho⟩ := ha
  refine ⟨[prO p, iO .i64 s, outW o, outW o], ⟨p, s, o, rfl, hs, hp, ho⟩, toL_cons (prL_to hA hB) (toL_refl _), rfl, ?_⟩
  show prO (saidF (prOf (prO p)) s _) :: _ = prO (saidF (prOf (.ptr 59 (prL p (.own 150 A) (.own 150 B)))) s _) :: _
  rw [prOf_self, prOf_of hA hB]
  rfl
def delC : Ctr := prC 2 (fun a => ∃ (p : PrR) (s : Int) (k : Nat), a = [prO p, iO .i64 s, iO .i64 (k : Int)] ∧ isS s ∧ okP 1990 p ∧ k < (wayF p s).length) (fun a => delF (pO a) (nO a 1) (nO a 2).toNat) fun _ => []
def l6 : List (Nat × Ctr) := [(31, saidC), (123, recvRC asO outO), (125, recvRC rfO outW), (124, ownCC)]
theorem l6_ok : COk Try.prog (ctrs l6) := cok_cons ok31w (cok_cons ok123 (cok_cons ok125 (cok_cons ok124 cok_nil)))
end Go.ZR
