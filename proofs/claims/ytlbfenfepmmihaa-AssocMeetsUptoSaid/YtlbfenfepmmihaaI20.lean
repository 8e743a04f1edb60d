/- Part 20 of what the closing text rests on. -/
import Derived.Test.YtlbfenfepmmihaaI16
import Derived.Test.YtlbfenfepmmihaaI19
import Derived.Test.YtlbfenfepmmihaaRows
namespace Go.ZR
open Go.Proofs
open Go.Z Go.ZM Go.RowKit
set_option maxRecDepth 100000
theorem xor_max {d : Int} (h : okU d) : bits .xor .u32 IntKind.u32.max d = 4294967295 - d := by
  unfold okU at h
  have e1 : bv 4294967295 = BitVec.allOnes 32 := by decide
  have e2 : bits .xor .u32 (iv (bv 4294967295)) (iv (bv d)) = iv (~~~ bv d) := by
    rw [xor_iv, e1, BitVec.allOnes_xor]
  rw [iv_bv (by omega) (by omega), iv_bv (by omega) (by omega)] at e2
  refine (show bits .xor .u32 IntKind.u32.max d = _ from e2).trans ?_
  have e3 := iv_bv (n := d) (by omega) (by omega)
  unfold iv at e3 ⊢
  rw [BitVec.toNat_not]
  omega
theorem sm_four : sm ([0, 3, 0, 4] : List Int).length := by unfold sm; decide
theorem okUm : okU 4294967295 := by unfold okU; omega
theorem seal_true {k : Int} {x : CruR} {b : Bool} (h : (sealF k x).2 = 0) (g : b = false → (sealF k x).1.length = 0) : b = true := by
  cases b with
  | true => rfl
  | false =>
    have h1 := g rfl
    unfold sealF at h h1
    split at h
    · rename_i hs
      rw [if_pos hs] at h1
      have h2 : (sealB k x).length = 40 := by unfold sealB; rw [List.length_append, cruB_len, be_len]
      have h3 : (sealB k x).length = 0 := h1
      omega
    · cases h
noncomputable def iA3c67 : Code := match Try.f67.body with | some c => c | none => .skip
noncomputable def iA3_67 : InlF := ⟨iA3c67, Try.f67.ntmps, Try.f67.results.toList, anns []⟩
noncomputable def iA3c68 : Code := match Try.f68.body with | some c => c | none => .skip
noncomputable def iA3_68 : InlF := ⟨iA3c68, Try.f68.ntmps, Try.f68.results.toList, anns [] [] [(4, 3)]⟩
noncomputable def iA3c113 : Code := match Try.f113.body with | some c => c | none => .skip
noncomputable def iA3_113 : InlF := ⟨iA3c113, Try.f113.ntmps, Try.f113.results.toList, anns []⟩
noncomputable def iA3c114 : Code := match Try.f114.body with | some c => c | none => .skip
noncomputable def iA3_114 : InlF := ⟨iA3c114, Try.f114.ntmps, Try.f114.results.toList, anns []⟩
noncomputable def iA3c119 : Code := match Try.f119.body with | some c => c | none => .skip
noncomputable def iA3_119 : InlF := ⟨iA3c119, Try.f119.ntmps, Try.f119.results.toList, anns []⟩
noncomputable def iA3c120 : Code := match Try.f120.body with | some c => c | none => .skip
noncomputable def iA3_120 : InlF := ⟨iA3c120, Try.f120.ntmps, Try.f120.results.toList, anns []⟩
noncomputable def iA3c126 : Code := match Try.f126.body with | some c => c | none => .skip
noncomputable def iA3_126 : InlF := ⟨iA3c126, Try.f126.ntmps, Try.f126.results.toList, anns []⟩
noncomputable def iA3c127 : Code := match Try.f127.body with | some c => c | none => .skip
noncomputable def iA3_127 : InlF := ⟨iA3c127, Try.f127.ntmps, Try.f127.results.toList, anns []⟩
noncomputable def iA3c159 : Code := match Try.f159.body with | some c => c | none => .skip
noncomputable def iA3_159 : InlF := ⟨iA3c159, Try.f159.ntmps, Try.f159.results.toList, anns []⟩
noncomputable def iA3c161 : Code := match Try.f161.body with | some c => c | none => .skip
noncomputable def iA3_161 : InlF := ⟨iA3c161, Try.f161.ntmps, Try.f161.results.toList, anns []⟩
noncomputable def iA3c162 : Code := match Try.f162.body with | some c => c | none => .skip
noncomputable def iA3_162 : InlF := ⟨iA3c162, Try.f162.ntmps, Try.f162.results.toList, anns []⟩
noncomputable def iA3c164 : Code := match Try.f164.body with | some c => c | none => .skip
noncomputable def iA3_164 : InlF := ⟨iA3c164, Try.f164.ntmps, Try.f164.results.toList, anns []⟩
noncomputable def iA3c165 : Code := match Try.f165.body with | some c => c | none => .skip
noncomputable def iA3_165 : InlF := ⟨iA3c165, Try.f165.ntmps, Try.f165.results.toList, anns []⟩
noncomputable def iA3c166 : Code := match Try.f166.body with | some c => c | none => .skip
noncomputable def iA3_166 : InlF := ⟨iA3c166, Try.f166.ntmps, Try.f166.results.toList, anns [] [16]⟩
noncomputable def iA3c203 : Code := match Try.f203.body with | some c => c | none => .skip
noncomputable def iA3_203 : InlF := ⟨iA3c203, Try.f203.ntmps, Try.f203.results.toList, anns []⟩
noncomputable def iA3c210 : Code := match Try.f210.body with | some c => c | none => .skip
noncomputable def iA3_210 : InlF := ⟨iA3c210, Try.f210.ntmps, Try.f210.results.toList, anns []⟩
noncomputable def iA3 : List (Nat × InlF) := [(67, iA3_67), (68, iA3_68), (113, iA3_113), (114, iA3_114), (119, iA3_119), (120, iA3_120), (126, iA3_126), (127, iA3_127), (159, iA3_159), (161, iA3_161), (162, iA3_162), (164, iA3_164), (165, iA3_165), (166, iA3_166), (203, iA3_203), (210, iA3_210)]
theorem iA3_ok : InlsOk Try.prog iA3 := ⟨inlOk Try.func67 (by kernel_rfl) (by kernel_rfl), inlOk Try.func68 (by kernel_rfl) (by kernel_rfl), inlOk Try.func113 (by kernel_rfl) (by kernel_rfl), inlOk Try.func114 (by kernel_rfl) (by kernel_rfl), inlOk Try.func119 (by kernel_rfl) (by kernel_rfl), inlOk Try.func120 (by kernel_rfl) (by kernel_rfl), inlOk Try.func126 (by kernel_rfl) (by kernel_rfl), inlOk Try.func127 (by kernel_rfl) (by kernel_rfl), inlOk Try.func159 (by kernel_rfl) (by kernel_rfl), inlOk Try.func161 (by kernel_rfl) (by kernel_rfl), inlOk Try.func162 (by kernel_rfl) (by kernel_rfl), inlOk Try.func164 (by kernel_rfl) (by kernel_rfl), inlOk Try.func165 (by kernel_rfl) (by kernel_rfl), inlOk Try.func166 (by kernel_rfl) (by kernel_rfl), inlOk Try.func203 (by kernel_rfl) (by kernel_rfl), inlOk Try.func210 (by kernel_rfl) (by kernel_rfl), trivial⟩
noncomputable def code123 : Code := match Try.f123.body with | some c => c | none => .skip
@[reducible] noncomputable def q123_0 (x0 : Int) (x1 : AsR) : Bool := decide (x0 = x1.mt)
@[reducible] def q123_1 : Prop := SV.p (3 : Nat) (0 : Nat) = SV.p (3 : Nat) (0 : Nat)
@[reducible] def q123_2 (x0 : Int) (x1 : AsR) : Prop := [q123_0 x0 x1] = [q123_0 x0 x1]
@[reducible] def q123_3 : Prop := SV.p (3 : Nat) (12 : Nat) = SV.p (3 : Nat) (12 : Nat)
@[reducible] def q123_4 (x0 : AsR) : Prop := SV.c (Value.int IntKind.i64 x0.st) = SV.c (Value.int IntKind.i64 x0.st)
@[reducible] noncomputable def q123_5 (x0 : AsR) : Bool := decide (x0.st = (0 : Int))
@[reducible] noncomputable def q123_6 (x0 : AsR) : Bool := !q123_5 x0
@[reducible] noncomputable def q123_7 (x0 : ChR) : List O := [O.agg [iO .u8 x0.t, iO .u8 x0.f, O.d (D.ints IntKind.u8 x0.v)]]
@[reducible] def q123_8 (x0 : ChR) : Prop := ∃ (c_1 : ChR), q123_7 x0 = q123_7 c_1 ∧ okB c_1.v ∧ sm c_1.v.length
@[reducible] noncomputable def q123_9 (x0 : ChR) : Bool := decide ((toHel x0).snd = (0 : Int))
@[reducible] def q123_10 (x0 : Int) : Prop := SV.c (Value.int IntKind.u32 x0) = SV.c (Value.int IntKind.u32 x0)
@[reducible] noncomputable def q123_11 (x0 : Int) : Bool := decide (x0 = (0 : Int))
@[reducible] noncomputable def q123_12 (x0 : AsR) : Bool := decide (x0.st = (7 : Int))
@[reducible] def q123_13 : Prop := (0 : Int) ≤ (0 : Int) ∧ (0 : Int) < (↑(1 : Nat) : Int)
@[reducible] noncomputable def q123_14 (x0 : List Int) : List O := [O.d (D.ints IntKind.u8 x0)]
@[reducible] def q123_15 (x0 : List Int) : Prop := sm x0.length
@[reducible] def q123_16 (x0 : AsR) : Prop := ∃ (l : List Int), [O.d (D.ints IntKind.u8 x0.lch.v)] = q123_14 l ∧ q123_15 l
@[reducible] def q123_17 (x0 : AsR) (x1 : AsR × OutR) : Prop := x0.lch.t = x1.fst.lch.t
@[reducible] def q123_18 (x0 : AsR) (x1 : AsR × OutR) : Prop := x0.lch.f = x1.fst.lch.f
@[reducible] def q123_19 (x0 : AsR) (x1 : AsR × OutR) : Prop := x0.lch.v = x1.fst.lch.v
@[reducible] def q123_20 : Prop := (0 : Nat) = (0 : Nat)
@[reducible] def q123_21 (x0 : AsR × OutR) : Prop := (1 : Nat) = x0.snd.pk.length
@[reducible] noncomputable def q123_22 (x0 : Nat) (x1 : Nat) : Bool := x0.beq (Int.toNat (0 : Int)) && Nat.ble (3 : Nat) x1 && x1.blt (4 : Nat)
@[reducible] noncomputable def q123_24 (x0 : Nat) : Nat := (x0 - (0 : Nat)) * Try.prog.types[142].size
@[reducible] noncomputable def q123_25 (x0 : AsR) (x1 : Nat) (x2 : Nat) : D := [D.v (Value.int IntKind.u32 x0.ltag), D.v (Value.int IntKind.u8 x0.lch.t), D.v (Value.int IntKind.u8 x0.lch.f), D.ints IntKind.u8 x0.lch.v].getD (q123_24 x1 + x2) (D.v undef)
@[reducible] def q123_26 (x0 : AsR × OutR) (x1 : AsR) : Prop := q123_21 x0 ∧ ∀ (i : Nat), i < (1 : Nat) → ∀ (j : Nat), j < (4 : Nat) → (bif q123_22 i j then [D.ints IntKind.u8 x1.lch.v].getD (j - (3 : Nat)) (q123_25 x1 i j) else q123_25 x1 i j) = ltrCell x0.snd.pk i j
@[reducible] def q123_27 (x0 : AsR × OutR) : Prop := noOut.ev = x0.snd.ev
@[reducible] def q123_30 (x0 : AsR × OutR) : Prop := q123_27 x0 ∧ (true && true && true) = true
@[reducible] noncomputable def q123_31 (x0 : AsR) : Bool := decide (x0.st = (1 : Int))
@[reducible] def q123_32 (x0 : AsR) : Prop := [!q123_31 x0] = [!q123_31 x0]
@[reducible] def q123_33 (x0 : AsR) : Prop := sw (!q123_31 x0) (q123_32 x0 ∧ q123_1) True
@[reducible] def q123_34 (x0 : AsR) : Prop := sw (!q123_31 x0) (q123_32 x0 ∧ q123_3) True
@[reducible] def q123_35 (x0 : AsR) : Prop := sw (!q123_31 x0) (q123_32 x0 ∧ q123_4 x0) True
@[reducible] noncomputable def q123_36 (x0 : AsR) : Bool := decide (x0.st = (2 : Int))
@[reducible] def q123_37 (x0 : AsR) : Prop := sw (!q123_31 x0) (q123_32 x0 ∧ True ∧ SV.c (Value.bool (q123_36 x0)) = SV.c (Value.bool (q123_36 x0))) True
@[reducible] noncomputable def q123_38 (x0 : AsR) : Bool := q123_31 x0 || q123_36 x0
@[reducible] def q123_39 (x0 : AsR) : Prop := [q123_6 x0] = [q123_6 x0]
@[reducible] def q123_40 (x0 : AsR) : Prop := sw (q123_6 x0) (q123_39 x0 ∧ True ∧ SV.c (Value.bool !q123_31 x0) = SV.c (Value.bool !q123_31 x0)) True
@[reducible] noncomputable def q123_41 (x0 : AsR) : O := iO .u64 x0.key
@[reducible] noncomputable def q123_42 (x0 : Int) : O := iO .i64 x0
@[reducible] noncomputable def q123_43 (x0 : AsR) : O := iO .u32 x0.mt
@[reducible] noncomputable def q123_44 (x0 : ChR) : D := D.v (Value.int IntKind.u32 (toHel x0).fst.tag)
@[reducible] noncomputable def q123_45 (x0 : AsR) : O := iO .u32 x0.ms
@[reducible] noncomputable def q123_46 (x0 : ChR) (x1 : AsR) : List O := [iO .u32 (toHel x0).fst.tsn, iO .u32 (toHel x0).fst.win, q123_43 x1, iO .u32 x1.pt]
@[reducible] noncomputable def q123_47 (x0 : CruR) : O := O.agg [iO .i64 x0.time, iO .u32 x0.a, iO .u32 x0.b, iO .u32 x0.c, iO .u32 x0.d, iO .u32 x0.e, iO .u32 x0.f, iO .u32 x0.g]
@[reducible] noncomputable def q123_48 (x0 : Int) (x1 : CruR) : List O := [iO .u64 x0, q123_47 x1]
@[reducible] noncomputable def q123_49 (x0 : AsR) (x1 : Int) (x2 : ChR) : List Int := (sealF x0.key (CruR.mk x1 x0.mt (toHel x2).fst.tag x0.ms (toHel x2).fst.tsn (toHel x2).fst.win x0.mt x0.pt)).fst
@[reducible] noncomputable def q123_50 (x0 : AsR) : O := iO .u32 x0.win
@[reducible] noncomputable def q123_51 : O := iO .u16 (8 : Int)
@[reducible] noncomputable def q123_52 (x0 : Bool) : List O := [O.d (D.v (Value.bool x0))]
@[reducible] noncomputable def q123_53 (x0 : HelR) (x1 : Bool) : List O := O.agg [iO .u32 x0.tag, iO .u32 x0.win, iO .u16 x0.out, iO .u16 x0.inn, iO .u32 x0.tsn, O.d (D.ints IntKind.u8 x0.cookie)] :: q123_52 x1
@[reducible] def q123_54 (x0 : AsR) (x1 : Int) (x2 : ChR) (x3 : Bool) : Prop := ∃ (h : HelR), ∃ (b : Bool), O.agg [q123_43 x0, q123_50 x0, q123_51, q123_51, q123_45 x0, O.d (D.ints IntKind.u8 (q123_49 x0 x1 x2))] :: q123_52 x3 = q123_53 h b ∧
  okHel h
@[reducible] noncomputable def q123_55 (x0 : AsR) (x1 : Int) (x2 : ChR) (x3 : Bool) : ChR := (fromHel (HelR.mk x0.mt x0.win (8 : Int) (8 : Int) x0.ms (q123_49 x0 x1 x2)) x3).fst
@[reducible] noncomputable def q123_56 (x0 : ChR) (x1 : AsR) (x2 : Int) (x3 : Bool) (x4 : Nat) (x5 : Nat) : D := [q123_44 x0, D.v (Value.int IntKind.u8 (q123_55 x1 x2 x0 x3).t), D.v (Value.int IntKind.u8 (q123_55 x1 x2 x0 x3).f), D.ints IntKind.u8 (q123_55 x1 x2 x0 x3).v].getD (q123_24 x4 + x5) (D.v undef)
@[reducible] def q123_57 (x0 : AsR × OutR) : Prop := q123_27 x0 ∧ (true && true && true) = true
@[reducible] def q123_58 (x0 : AsR) (x1 : Int) (x2 : ChR) (x3 : Bool) (x4 : AsR × OutR) : Prop := ((((True ∧ (40 : Nat) ≤ (140737488355328 : Nat) ∧ (True ∧
  q123_13 ∧ ((∃ (l : List Int), [O.d (D.ints IntKind.u8 (q123_55 x0 x1 x2 x3).v)] = q123_14 l ∧ q123_15 l) ∧ q123_13 ∧ (True ∧ True ∧ x0.key = x4.fst.key ∧
  x0.win = x4.fst.win ∧ x0.life = x4.fst.life ∧ x0.rto = x4.fst.rto ∧ x0.tries = x4.fst.tries ∧ x0.ltag = x4.fst.ltag ∧ q123_17 x0 x4 ∧ q123_18 x0 x4 ∧ q123_19 x0 x4 ∧
  x0.at_ = x4.fst.at_ ∧ x0.left = x4.fst.left ∧ x0.set = x4.fst.set ∧ x0.st = x4.fst.st ∧ x0.mt = x4.fst.mt ∧ x0.ms = x4.fst.ms ∧ x0.pt = x4.fst.pt ∧ x0.ps = x4.fst.ps ∧
  q123_20 ∧ noOut.ev = [] ∧ (q123_21 x4 ∧ ∀ (i : Nat), i < (1 : Nat) → ∀ (j : Nat), j < (4 : Nat) → (bif q123_22 i j then [D.ints IntKind.u8 (q123_55 x0 x1 x2 x3).v].getD (j - (3 : Nat)) (q123_56 x2 x0 x1 x3 i j) else q123_56 x2 x0 x1 x3 i j) = ltrCell x4.snd.pk i j) ∧
  q123_57 x4) ∧ True) ∧ True) ∧ True) ∧ True) ∧ True) ∧ True) ∧ True
@[reducible] def q123_59 (x0 : AsR × OutR) : Prop := (0 : Nat) = x0.snd.pk.length ∧ ∀ (i : Nat), i < (0 : Nat) → ∀ (j : Nat), j < (4 : Nat) → ltrCell noOut.pk i j = ltrCell x0.snd.pk i j
@[reducible] def q123_60 (x0 : AsR) (x1 : AsR × OutR) : Prop := x0.mt = x1.fst.mt ∧ x0.ms = x1.fst.ms ∧ x0.pt = x1.fst.pt ∧ x0.ps = x1.fst.ps ∧ q123_20 ∧
  noOut.ev = [] ∧ q123_59 x1 ∧ q123_27 x1 ∧ (true && true && true) = true
@[reducible] def q123_61 (x0 : AsR) (x1 : AsR × OutR) : Prop := True ∧ x0.key = x1.fst.key ∧ x0.win = x1.fst.win ∧ x0.life = x1.fst.life ∧ x0.rto = x1.fst.rto ∧
  x0.tries = x1.fst.tries ∧ x0.ltag = x1.fst.ltag ∧ q123_17 x0 x1 ∧ q123_18 x0 x1 ∧ q123_19 x0 x1 ∧ x0.at_ = x1.fst.at_ ∧ x0.left = x1.fst.left ∧ x0.set = x1.fst.set ∧
  x0.st = x1.fst.st ∧ q123_60 x0 x1
@[reducible] noncomputable def q123_62 (x0 : ChR) : List O := [iO .u32 (toHel x0).fst.tsn, iO .u32 (toHel x0).fst.win, iO .u32 (0 : Int), iO .u32 (0 : Int)]
@[reducible] def q123_63 (x0 : AsR) (x1 : List Int × Int) (x2 : Bool) : Prop := ∃ (h : HelR), ∃ (b : Bool), O.agg [q123_43 x0, q123_50 x0, q123_51, q123_51, q123_45 x0, O.d (D.ints IntKind.u8 x1.fst)] :: q123_52 x2 = q123_53 h b ∧
  okHel h
@[reducible] noncomputable def q123_64 (x0 : AsR) (x1 : List Int × Int) (x2 : Bool) : ChR := (fromHel (HelR.mk x0.mt x0.win (8 : Int) (8 : Int) x0.ms x1.fst) x2).fst
@[reducible] noncomputable def q123_65 (x0 : ChR) (x1 : AsR) (x2 : List Int × Int) (x3 : Bool) (x4 : Nat) (x5 : Nat) : D := [q123_44 x0, D.v (Value.int IntKind.u8 (q123_64 x1 x2 x3).t), D.v (Value.int IntKind.u8 (q123_64 x1 x2 x3).f), D.ints IntKind.u8 (q123_64 x1 x2 x3).v].getD (q123_24 x4 + x5) (D.v undef)
@[reducible] def q123_66 (x0 : AsR) (x1 : List Int × Int) (x2 : Bool) (x3 : AsR × OutR) (x4 : ChR) : Prop := ((((True ∧ (40 : Nat) ≤ (140737488355328 : Nat) ∧
  (True ∧ q123_13 ∧ ((∃ (l : List Int), [O.d (D.ints IntKind.u8 (q123_64 x0 x1 x2).v)] = q123_14 l ∧ q123_15 l) ∧ q123_13 ∧ (True ∧ True ∧ x0.key = x3.fst.key ∧
  x0.win = x3.fst.win ∧ x0.life = x3.fst.life ∧ x0.rto = x3.fst.rto ∧ x0.tries = x3.fst.tries ∧ x0.ltag = x3.fst.ltag ∧ q123_17 x0 x3 ∧ q123_18 x0 x3 ∧ q123_19 x0 x3 ∧
  x0.at_ = x3.fst.at_ ∧ x0.left = x3.fst.left ∧ x0.set = x3.fst.set ∧ x0.st = x3.fst.st ∧ x0.mt = x3.fst.mt ∧ x0.ms = x3.fst.ms ∧ x0.pt = x3.fst.pt ∧ x0.ps = x3.fst.ps ∧
  q123_20 ∧ noOut.ev = [] ∧ (q123_21 x3 ∧ ∀ (i : Nat), i < (1 : Nat) → ∀ (j : Nat), j < (4 : Nat) → (bif q123_22 i j then [D.ints IntKind.u8 (q123_64 x0 x1 x2).v].getD (j - (3 : Nat)) (q123_65 x4 x0 x1 x2 i j) else q123_65 x4 x0 x1 x2 i j) = ltrCell x3.snd.pk i j) ∧
  q123_57 x3) ∧ True) ∧ True) ∧ True) ∧ True) ∧ True) ∧ True) ∧ True
@[reducible] def q123_67 (x0 : AsR) (x1 : Int) (x2 : ChR) (x3 : AsR × OutR) (x4 : List Int × Int) : Prop := True ∧ sw (q123_6 x0) q123_1 True ∧ sw (q123_6 x0) (q123_39 x0 ∧
  q123_1) True ∧ sw (q123_6 x0) (q123_39 x0 ∧ q123_3) True ∧ sw (q123_6 x0) (q123_39 x0 ∧ q123_4 x0) True ∧ q123_40 x0 ∧ q123_39 x0 ∧ sw (q123_6 x0 && !q123_31 x0) (((((∃ (k : Int), ∃ (c_1 : CruR), [q123_41 x0, O.agg (q123_42 x1 :: q123_43 x0 :: O.d (q123_44 x2) :: q123_45 x0 :: q123_46 x2 x0)] = q123_48 k c_1 ∧
  okCru c_1) ∧ True ∧ sw (decide ((sealF x0.key (CruR.mk x1 x0.mt (toHel x2).fst.tag x0.ms (toHel x2).fst.tsn (toHel x2).fst.win x0.mt x0.pt)).snd = (0 : Int))) ((∀ (t_1 : Bool), (t_1 = false →
  (q123_49 x0 x1 x2).length = (0 : Nat)) → (q123_54 x0 x1 x2 t_1 ∧ q123_58 x0 x1 x2 t_1 x3 ∧ True) ∧ ((q123_54 x0 x1 x2 t_1 ∧ q123_58 x0 x1 x2 t_1 x3) ∧ True) ∧
  True) ∧ True) (q123_61 x0 x3)) ∧ True) ∧ True) ∧ True) (((∃ (k : Int), ∃ (c_1 : CruR), [q123_41 x0, O.agg (q123_42 x1 :: q123_43 x0 :: O.d (q123_44 x2) :: q123_45 x0 :: q123_62 x2)] = q123_48 k c_1 ∧
  okCru c_1) ∧ True ∧ sw (decide (x4.snd = (0 : Int))) ((∀ (t_1 : Bool), (t_1 = false → x4.fst.length = (0 : Nat)) → (q123_63 x0 x4 t_1 ∧ q123_66 x0 x4 t_1 x3 x2 ∧
  True) ∧ ((q123_63 x0 x4 t_1 ∧ q123_66 x0 x4 t_1 x3 x2) ∧ True) ∧ True) ∧ True) (q123_61 x0 x3)) ∧ True)
@[reducible] noncomputable def q123_68 : O := iO .u32 (1 : Int)
@[reducible] noncomputable def q123_69 : O := iO .u32 (4294967295 : Int)
@[reducible] noncomputable def q123_70 (x0 : AsR) (x1 : Int) (x2 : ChR) : List Int := (sealF x0.key (CruR.mk x1 (1 : Int) (toHel x2).fst.tag (4294967295 : Int) (toHel x2).fst.tsn (toHel x2).fst.win x0.mt x0.pt)).fst
@[reducible] def q123_71 (x0 : AsR) (x1 : Int) (x2 : ChR) (x3 : Bool) : Prop := ∃ (h : HelR), ∃ (b : Bool), O.agg [q123_68, q123_50 x0, q123_51, q123_51, q123_69, O.d (D.ints IntKind.u8 (q123_70 x0 x1 x2))] :: q123_52 x3 = q123_53 h b ∧
  okHel h
@[reducible] noncomputable def q123_72 (x0 : AsR) (x1 : Int) (x2 : ChR) (x3 : Bool) : ChR := (fromHel (HelR.mk (1 : Int) x0.win (8 : Int) (8 : Int) (4294967295 : Int) (q123_70 x0 x1 x2)) x3).fst
@[reducible] noncomputable def q123_73 (x0 : ChR) (x1 : AsR) (x2 : Int) (x3 : Bool) (x4 : Nat) (x5 : Nat) : D := [q123_44 x0, D.v (Value.int IntKind.u8 (q123_72 x1 x2 x0 x3).t), D.v (Value.int IntKind.u8 (q123_72 x1 x2 x0 x3).f), D.ints IntKind.u8 (q123_72 x1 x2 x0 x3).v].getD (q123_24 x4 + x5) (D.v undef)
@[reducible] def q123_74 (x0 : AsR) (x1 : Int) (x2 : ChR) (x3 : Bool) (x4 : AsR × OutR) : Prop := ((((True ∧ (40 : Nat) ≤ (140737488355328 : Nat) ∧ (True ∧
  q123_13 ∧ ((∃ (l : List Int), [O.d (D.ints IntKind.u8 (q123_72 x0 x1 x2 x3).v)] = q123_14 l ∧ q123_15 l) ∧ q123_13 ∧ (True ∧ True ∧ x0.key = x4.fst.key ∧
  x0.win = x4.fst.win ∧ x0.life = x4.fst.life ∧ x0.rto = x4.fst.rto ∧ x0.tries = x4.fst.tries ∧ x0.ltag = x4.fst.ltag ∧ q123_17 x0 x4 ∧ q123_18 x0 x4 ∧ q123_19 x0 x4 ∧
  x0.at_ = x4.fst.at_ ∧ x0.left = x4.fst.left ∧ x0.set = x4.fst.set ∧ x0.st = x4.fst.st ∧ x0.mt = x4.fst.mt ∧ x0.ms = x4.fst.ms ∧ x0.pt = x4.fst.pt ∧ x0.ps = x4.fst.ps ∧
  q123_20 ∧ noOut.ev = [] ∧ (q123_21 x4 ∧ ∀ (i : Nat), i < (1 : Nat) → ∀ (j : Nat), j < (4 : Nat) → (bif q123_22 i j then [D.ints IntKind.u8 (q123_72 x0 x1 x2 x3).v].getD (j - (3 : Nat)) (q123_73 x2 x0 x1 x3 i j) else q123_73 x2 x0 x1 x3 i j) = ltrCell x4.snd.pk i j) ∧
  q123_57 x4) ∧ True) ∧ True) ∧ True) ∧ True) ∧ True) ∧ True) ∧ True
@[reducible] noncomputable def q123_75 (x0 : AsR) (x1 : Int) (x2 : ChR) : Int := (sealF x0.key (CruR.mk x1 (1 : Int) (toHel x2).fst.tag (4294967295 : Int) (toHel x2).fst.tsn (toHel x2).fst.win (0 : Int) (0 : Int))).snd
@[reducible] noncomputable def q123_76 (x0 : AsR) (x1 : Int) (x2 : ChR) : List Int := (sealF x0.key (CruR.mk x1 (1 : Int) (toHel x2).fst.tag (4294967295 : Int) (toHel x2).fst.tsn (toHel x2).fst.win (0 : Int) (0 : Int))).fst
@[reducible] def q123_77 (x0 : AsR) (x1 : Int) (x2 : ChR) (x3 : Bool) : Prop := ∃ (h : HelR), ∃ (b : Bool), O.agg [q123_68, q123_50 x0, q123_51, q123_51, q123_69, O.d (D.ints IntKind.u8 (q123_76 x0 x1 x2))] :: q123_52 x3 = q123_53 h b ∧
  okHel h
@[reducible] noncomputable def q123_78 (x0 : AsR) (x1 : Int) (x2 : ChR) (x3 : Bool) : ChR := (fromHel (HelR.mk (1 : Int) x0.win (8 : Int) (8 : Int) (4294967295 : Int) (q123_76 x0 x1 x2)) x3).fst
@[reducible] noncomputable def q123_79 (x0 : ChR) (x1 : AsR) (x2 : Int) (x3 : Bool) (x4 : Nat) (x5 : Nat) : D := [q123_44 x0, D.v (Value.int IntKind.u8 (q123_78 x1 x2 x0 x3).t), D.v (Value.int IntKind.u8 (q123_78 x1 x2 x0 x3).f), D.ints IntKind.u8 (q123_78 x1 x2 x0 x3).v].getD (q123_24 x4 + x5) (D.v undef)
@[reducible] def q123_80 (x0 : AsR) (x1 : Int) (x2 : ChR) (x3 : Bool) (x4 : AsR × OutR) : Prop := ((((True ∧ (40 : Nat) ≤ (140737488355328 : Nat) ∧ (True ∧
  q123_13 ∧ ((∃ (l : List Int), [O.d (D.ints IntKind.u8 (q123_78 x0 x1 x2 x3).v)] = q123_14 l ∧ q123_15 l) ∧ q123_13 ∧ (True ∧ True ∧ x0.key = x4.fst.key ∧
  x0.win = x4.fst.win ∧ x0.life = x4.fst.life ∧ x0.rto = x4.fst.rto ∧ x0.tries = x4.fst.tries ∧ x0.ltag = x4.fst.ltag ∧ q123_17 x0 x4 ∧ q123_18 x0 x4 ∧ q123_19 x0 x4 ∧
  x0.at_ = x4.fst.at_ ∧ x0.left = x4.fst.left ∧ x0.set = x4.fst.set ∧ x0.st = x4.fst.st ∧ x0.mt = x4.fst.mt ∧ x0.ms = x4.fst.ms ∧ x0.pt = x4.fst.pt ∧ x0.ps = x4.fst.ps ∧
  q123_20 ∧ noOut.ev = [] ∧ (q123_21 x4 ∧ ∀ (i : Nat), i < (1 : Nat) → ∀ (j : Nat), j < (4 : Nat) → (bif q123_22 i j then [D.ints IntKind.u8 (q123_78 x0 x1 x2 x3).v].getD (j - (3 : Nat)) (q123_79 x2 x0 x1 x3 i j) else q123_79 x2 x0 x1 x3 i j) = ltrCell x4.snd.pk i j) ∧
  q123_57 x4) ∧ True) ∧ True) ∧ True) ∧ True) ∧ True) ∧ True) ∧ True
@[reducible] noncomputable def q123_81 (x0 : Int) : Int := bits BinOp.xor IntKind.u32 IntKind.u32.max x0
@[reducible] noncomputable def q123_82 (x0 : Int) : O := iO .u32 (q123_81 x0)
@[reducible] noncomputable def q123_83 (x0 : AsR) (x1 : Int) (x2 : Int) (x3 : ChR) : List Int := (sealF x0.key (CruR.mk x1 x2 (toHel x3).fst.tag (q123_81 x2) (toHel x3).fst.tsn (toHel x3).fst.win x0.mt x0.pt)).fst
@[reducible] def q123_84 (x0 : Int) (x1 : AsR) (x2 : Int) (x3 : ChR) (x4 : Bool) : Prop := ∃ (h : HelR), ∃ (b : Bool), O.agg [iO .u32 x0, q123_50 x1, q123_51, q123_51, q123_82 x0, O.d (D.ints IntKind.u8 (q123_83 x1 x2 x0 x3))] :: q123_52 x4 = q123_53 h b ∧
  okHel h
@[reducible] noncomputable def q123_85 (x0 : ChR) (x1 : Int) (x2 : AsR) (x3 : Int) (x4 : Bool) (x5 : Nat) (x6 : Nat) : D := [q123_44 x0, D.v (Value.int IntKind.u8 (fromHel (HelR.mk x1 x2.win (8 : Int) (8 : Int) (q123_81 x1) (q123_83 x2 x3 x1 x0)) x4).fst.t), D.v (Value.int IntKind.u8 (fromHel (HelR.mk x1 x2.win (8 : Int) (8 : Int) (q123_81 x1) (q123_83 x2 x3 x1 x0)) x4).fst.f), D.ints IntKind.u8 (fromHel (HelR.mk x1 x2.win (8 : Int) (8 : Int) (q123_81 x1) (q123_83 x2 x3 x1 x0)) x4).fst.v].getD (q123_24 x5 + x6) (D.v undef)
@[reducible] def q123_86 (x0 : Int) (x1 : AsR) (x2 : Int) (x3 : ChR) (x4 : Bool) (x5 : AsR × OutR) : Prop := ((((True ∧ (40 : Nat) ≤ (140737488355328 : Nat) ∧
  (True ∧ q123_13 ∧ ((∃ (l : List Int), [O.d (D.ints IntKind.u8 (fromHel (HelR.mk x0 x1.win (8 : Int) (8 : Int) (q123_81 x0) (q123_83 x1 x2 x0 x3)) x4).fst.v)] = q123_14 l ∧
  q123_15 l) ∧ q123_13 ∧ (True ∧ True ∧ x1.key = x5.fst.key ∧ x1.win = x5.fst.win ∧ x1.life = x5.fst.life ∧ x1.rto = x5.fst.rto ∧ x1.tries = x5.fst.tries ∧
  x1.ltag = x5.fst.ltag ∧ q123_17 x1 x5 ∧ q123_18 x1 x5 ∧ q123_19 x1 x5 ∧ x1.at_ = x5.fst.at_ ∧ x1.left = x5.fst.left ∧ x1.set = x5.fst.set ∧ x1.st = x5.fst.st ∧
  x1.mt = x5.fst.mt ∧ x1.ms = x5.fst.ms ∧ x1.pt = x5.fst.pt ∧ x1.ps = x5.fst.ps ∧ q123_20 ∧ noOut.ev = [] ∧ (q123_21 x5 ∧ ∀ (i : Nat), i < (1 : Nat) → ∀ (j : Nat), j < (4 : Nat) →
  (bif q123_22 i j then [D.ints IntKind.u8 (fromHel (HelR.mk x0 x1.win (8 : Int) (8 : Int) (q123_81 x0) (q123_83 x1 x2 x0 x3)) x4).fst.v].getD (j - (3 : Nat)) (q123_85 x3 x0 x1 x2 x4 i j) else q123_85 x3 x0 x1 x2 x4 i j) = ltrCell x5.snd.pk i j) ∧
  q123_57 x5) ∧ True) ∧ True) ∧ True) ∧ True) ∧ True) ∧ True) ∧ True
@[reducible] noncomputable def q123_87 (x0 : AsR) (x1 : Int) (x2 : Int) (x3 : ChR) : List Int := (sealF x0.key (CruR.mk x1 x2 (toHel x3).fst.tag (q123_81 x2) (toHel x3).fst.tsn (toHel x3).fst.win (0 : Int) (0 : Int))).fst
@[reducible] def q123_88 (x0 : Int) (x1 : AsR) (x2 : Int) (x3 : ChR) (x4 : Bool) : Prop := ∃ (h : HelR), ∃ (b : Bool), O.agg [iO .u32 x0, q123_50 x1, q123_51, q123_51, q123_82 x0, O.d (D.ints IntKind.u8 (q123_87 x1 x2 x0 x3))] :: q123_52 x4 = q123_53 h b ∧
  okHel h
@[reducible] noncomputable def q123_89 (x0 : ChR) (x1 : Int) (x2 : AsR) (x3 : Int) (x4 : Bool) (x5 : Nat) (x6 : Nat) : D := [q123_44 x0, D.v (Value.int IntKind.u8 (fromHel (HelR.mk x1 x2.win (8 : Int) (8 : Int) (q123_81 x1) (q123_87 x2 x3 x1 x0)) x4).fst.t), D.v (Value.int IntKind.u8 (fromHel (HelR.mk x1 x2.win (8 : Int) (8 : Int) (q123_81 x1) (q123_87 x2 x3 x1 x0)) x4).fst.f), D.ints IntKind.u8 (fromHel (HelR.mk x1 x2.win (8 : Int) (8 : Int) (q123_81 x1) (q123_87 x2 x3 x1 x0)) x4).fst.v].getD (q123_24 x5 + x6) (D.v undef)
@[reducible] def q123_90 (x0 : Int) (x1 : AsR) (x2 : Int) (x3 : ChR) (x4 : Bool) (x5 : AsR × OutR) : Prop := ((((True ∧ (40 : Nat) ≤ (140737488355328 : Nat) ∧
  (True ∧ q123_13 ∧ ((∃ (l : List Int), [O.d (D.ints IntKind.u8 (fromHel (HelR.mk x0 x1.win (8 : Int) (8 : Int) (q123_81 x0) (q123_87 x1 x2 x0 x3)) x4).fst.v)] = q123_14 l ∧
  q123_15 l) ∧ q123_13 ∧ (True ∧ True ∧ x1.key = x5.fst.key ∧ x1.win = x5.fst.win ∧ x1.life = x5.fst.life ∧ x1.rto = x5.fst.rto ∧ x1.tries = x5.fst.tries ∧
  x1.ltag = x5.fst.ltag ∧ q123_17 x1 x5 ∧ q123_18 x1 x5 ∧ q123_19 x1 x5 ∧ x1.at_ = x5.fst.at_ ∧ x1.left = x5.fst.left ∧ x1.set = x5.fst.set ∧ x1.st = x5.fst.st ∧
  x1.mt = x5.fst.mt ∧ x1.ms = x5.fst.ms ∧ x1.pt = x5.fst.pt ∧ x1.ps = x5.fst.ps ∧ q123_20 ∧ noOut.ev = [] ∧ (q123_21 x5 ∧ ∀ (i : Nat), i < (1 : Nat) → ∀ (j : Nat), j < (4 : Nat) →
  (bif q123_22 i j then [D.ints IntKind.u8 (fromHel (HelR.mk x0 x1.win (8 : Int) (8 : Int) (q123_81 x0) (q123_87 x1 x2 x0 x3)) x4).fst.v].getD (j - (3 : Nat)) (q123_89 x3 x0 x1 x2 x4 i j) else q123_89 x3 x0 x1 x2 x4 i j) = ltrCell x5.snd.pk i j) ∧
  q123_57 x5) ∧ True) ∧ True) ∧ True) ∧ True) ∧ True) ∧ True) ∧ True
@[reducible] noncomputable def q123_91 (x0 : Int) (x1 : AsR) : Bool := q123_0 x0 x1 && q123_6 x1
@[reducible] noncomputable def q123_92 (x0 : ChR) (x1 : Int) (x2 : AsR) : Bool := q123_9 x0 && q123_91 x1 x2
@[reducible] def q123_93 (x0 : ChR) (x1 : Int) (x2 : AsR) : Prop := [q123_92 x0 x1 x2] = [q123_92 x0 x1 x2]
@[reducible] def q123_94 (x0 : AsR × OutR) : Prop := (0 : Int) = x0.fst.lch.f
@[reducible] noncomputable def q123_95 (x0 : ChR) (x1 : Nat) (x2 : Nat) : D := [q123_44 x0, D.v (Value.int IntKind.u8 (10 : Int)), D.v (Value.int IntKind.u8 (0 : Int)), D.ints IntKind.u8 (toHel x0).fst.cookie].getD (q123_24 x1 + x2) (D.v undef)
@[reducible] def q123_96 (x0 : AsR) (x1 : ChR) : Prop := ∃ (k : Int), ∃ (b : List Int), [q123_41 x0, O.d (D.ints IntKind.u8 x1.v)] = iO .u64 k :: q123_14 b ∧
  b.length ≤ (1048576 : Nat) ∧ okB b
@[reducible] noncomputable def q123_97 (x0 : CruR × Int) : Bool := decide (x0.snd = (0 : Int))
@[reducible] def q123_98 (x0 : CruR × Int) : Prop := [q123_97 x0] = [q123_97 x0]
@[reducible] noncomputable def q123_99 : List Int := [(0 : Int), (3 : Int), (0 : Int), (4 : Int)]
@[reducible] noncomputable def q123_100 (x0 : CruR × Int) (x1 : Nat) (x2 : Nat) : D := [D.v (Value.int IntKind.u32 x0.fst.b), D.v (Value.int IntKind.u8 (9 : Int)), D.v (Value.int IntKind.u8 (0 : Int)), D.ints IntKind.u8 q123_99].getD (q123_24 x1 + x2) (D.v undef)
@[reducible] noncomputable def q123_101 (x0 : CruR × Int) (x1 : AsR) : Bool := decide (x0.fst.f = x1.mt)
@[reducible] def q123_102 (x0 : CruR × Int) (x1 : AsR) : Prop := [q123_101 x0 x1] = [q123_101 x0 x1]
@[reducible] noncomputable def q123_103 (x0 : CruR × Int) (x1 : AsR) : Bool := q123_101 x0 x1 && decide (x0.fst.g = x1.pt)
@[reducible] noncomputable def q123_104 (x0 : CruR × Int) : Bool := !decide (x0.fst.f = (0 : Int))
@[reducible] noncomputable def q123_105 (x0 : CruR × Int) (x1 : AsR) : Bool := q123_103 x0 x1 && q123_104 x0
@[reducible] noncomputable def q123_106 (x0 : CruR × Int) : Bool := !decide (x0.fst.g = (0 : Int))
@[reducible] def q123_107 : Prop := ∃ (l : List Int), [O.d (D.ints IntKind.u8 [])] = q123_14 l ∧ q123_15 l
@[reducible] def q123_108 (x0 : AsR × OutR) : Prop := (0 : Int) = x0.fst.ltag
@[reducible] def q123_109 (x0 : AsR × OutR) : Prop := (0 : Int) = x0.fst.lch.t
@[reducible] def q123_110 (x0 : AsR × OutR) : Prop := x0.fst.lch.v = []
@[reducible] def q123_111 (x0 : AsR × OutR) : Prop := (0 : Int) = x0.fst.at_
@[reducible] def q123_112 (x0 : AsR × OutR) : Prop := (0 : Int) = x0.fst.left
@[reducible] def q123_113 (x0 : AsR × OutR) : Prop := false = x0.fst.set
@[reducible] noncomputable def q123_114 : List D := [D.v (Value.int IntKind.u8 (0 : Int)), D.ints IntKind.u8 []]
@[reducible] def q123_115 (x0 : AsR × OutR) (x1 : CruR × Int) : Prop := q123_21 x0 ∧ ∀ (i : Nat), i < (1 : Nat) → ∀ (j : Nat), j < (4 : Nat) → (bif q123_22 i j then [D.ints IntKind.u8 []].getD (j - (3 : Nat)) ((D.v (Value.int IntKind.u32 x1.fst.b) :: D.v (Value.int IntKind.u8 (11 : Int)) :: q123_114).getD (q123_24 i + j) (D.v undef)) else (D.v (Value.int IntKind.u32 x1.fst.b) :: D.v (Value.int IntKind.u8 (11 : Int)) :: q123_114).getD (q123_24 i + j) (D.v undef)) = ltrCell x0.snd.pk i j
@[reducible] def q123_116 : Prop := (true && true && true) = true
@[reducible] def q123_117 (x0 : AsR) (x1 : AsR × OutR) (x2 : CruR × Int) : Prop := ((((((True ∧ (40 : Nat) ≤ (140737488355328 : Nat) ∧ (True ∧ (8 : Nat) ≤ (140737488355328 : Nat) ∧
  True ∧ q123_13 ∧ (q123_107 ∧ q123_13 ∧ (True ∧ True ∧ x0.key = x1.fst.key ∧ x0.win = x1.fst.win ∧ x0.life = x1.fst.life ∧ x0.rto = x1.fst.rto ∧ x0.tries = x1.fst.tries ∧
  q123_108 x1 ∧ q123_109 x1 ∧ q123_94 x1 ∧ q123_110 x1 ∧ q123_111 x1 ∧ q123_112 x1 ∧ q123_113 x1 ∧ (3 : Int) = x1.fst.st ∧ x2.fst.a = x1.fst.mt ∧ x2.fst.c = x1.fst.ms ∧
  x2.fst.b = x1.fst.pt ∧ x2.fst.d = x1.fst.ps ∧ q123_20 ∧ noOut.ev = [] ∧ q123_115 x1 x2 ∧ noOut.ev ++ [(1 : Int)] = x1.snd.ev ∧ q123_116) ∧ True) ∧ True) ∧
  True) ∧ True) ∧ True) ∧ True) ∧ True) ∧ True) ∧ True
@[reducible] noncomputable def q123_118 (x0 : CruR × Int) (x1 : AsR) : Bool := decide (x0.fst.a = x1.mt)
@[reducible] noncomputable def q123_119 (x0 : CruR × Int) (x1 : AsR) : Bool := decide (x0.fst.b = x1.pt)
@[reducible] noncomputable def q123_120 (x0 : CruR × Int) (x1 : AsR) : Bool := !q123_118 x0 x1 && !q123_119 x0 x1
@[reducible] def q123_121 (x0 : AsR) (x1 : AsR × OutR) (x2 : CruR × Int) : Prop := ((((((True ∧ (40 : Nat) ≤ (140737488355328 : Nat) ∧ (True ∧ (8 : Nat) ≤ (140737488355328 : Nat) ∧
  True ∧ q123_13 ∧ (q123_107 ∧ q123_13 ∧ (True ∧ True ∧ x0.key = x1.fst.key ∧ x0.win = x1.fst.win ∧ x0.life = x1.fst.life ∧ x0.rto = x1.fst.rto ∧ x0.tries = x1.fst.tries ∧
  q123_108 x1 ∧ q123_109 x1 ∧ q123_94 x1 ∧ q123_110 x1 ∧ q123_111 x1 ∧ q123_112 x1 ∧ q123_113 x1 ∧ (3 : Int) = x1.fst.st ∧ x2.fst.a = x1.fst.mt ∧ x2.fst.c = x1.fst.ms ∧
  x2.fst.b = x1.fst.pt ∧ x2.fst.d = x1.fst.ps ∧ q123_20 ∧ noOut.ev = [] ∧ q123_115 x1 x2 ∧ noOut.ev ++ [(2 : Int)] = x1.snd.ev ∧ q123_116) ∧ True) ∧ True) ∧
  True) ∧ True) ∧ True) ∧ True) ∧ True) ∧ True) ∧ True
@[reducible] def q123_122 (x0 : CruR × Int) (x1 : AsR) : Prop := [q123_118 x0 x1] = [q123_118 x0 x1]
@[reducible] def q123_123 (x0 : CruR × Int) (x1 : AsR) : Prop := sw (q123_118 x0 x1) (q123_122 x0 x1 ∧ SV.c (Value.bool !q123_119 x0 x1) = SV.c (Value.bool !q123_119 x0 x1)) True
@[reducible] def q123_124 (x0 : CruR × Int) (x1 : Int) (x2 : Int) (x3 : AsR) (x4 : AsR × OutR) : Prop := (True ∧ sw (q123_97 x0) (q123_10 x1) True ∧ sw (q123_97 x0) (SV.p (7 : Nat) (1 : Nat) = SV.p (7 : Nat) (1 : Nat)) True ∧
  sw (q123_97 x0) (q123_98 x0 ∧ SV.c (Value.int IntKind.u32 x0.fst.a) = SV.c (Value.int IntKind.u32 x0.fst.a)) True ∧ sw (q123_97 x0) (q123_98 x0 ∧ q123_98 x0 ∧
  True ∧ SV.c (Value.bool (decide (x1 = x0.fst.a))) = SV.c (Value.bool (decide (x1 = x0.fst.a)))) True ∧ q123_98 x0 ∧ sw (q123_97 x0 && decide (x1 = x0.fst.a)) ((∃ (c_1 : CruR), ∃ (n : Int), ∃ (l : Int), [O.agg [iO .i64 x0.fst.time, iO .u32 x0.fst.a, iO .u32 x0.fst.b, iO .u32 x0.fst.c, iO .u32 x0.fst.d, iO .u32 x0.fst.e, iO .u32 x0.fst.f, iO .u32 x0.fst.g], q123_42 x2, iO .i64 x3.life] = [q123_47 c_1, q123_42 n, q123_42 l] ∧
  ((-1099511627776 : Int) ≤ c_1.time ∧ c_1.time ≤ (1099511627776 : Int)) ∧ ((-1099511627776 : Int) ≤ n ∧ n ≤ (1099511627776 : Int)) ∧ (-1099511627776 : Int) ≤ l ∧
  l ≤ (1099511627776 : Int)) ∧ sw (!freshF x0.fst.time x2 x3.life) (((((True ∧ (40 : Nat) ≤ (140737488355328 : Nat) ∧ (True ∧ q123_13 ∧ ((∃ (l : List Int), [O.d (D.ints IntKind.u8 q123_99)] = q123_14 l ∧
  q123_15 l) ∧ q123_13 ∧ (True ∧ True ∧ x3.key = x4.fst.key ∧ x3.win = x4.fst.win ∧ x3.life = x4.fst.life ∧ x3.rto = x4.fst.rto ∧ x3.tries = x4.fst.tries ∧
  x3.ltag = x4.fst.ltag ∧ q123_17 x3 x4 ∧ q123_18 x3 x4 ∧ q123_19 x3 x4 ∧ x3.at_ = x4.fst.at_ ∧ x3.left = x4.fst.left ∧ x3.set = x4.fst.set ∧ x3.st = x4.fst.st ∧
  x3.mt = x4.fst.mt ∧ x3.ms = x4.fst.ms ∧ x3.pt = x4.fst.pt ∧ x3.ps = x4.fst.ps ∧ q123_20 ∧ noOut.ev = [] ∧ (q123_21 x4 ∧ ∀ (i : Nat), i < (1 : Nat) → ∀ (j : Nat), j < (4 : Nat) →
  (bif q123_22 i j then [D.ints IntKind.u8 q123_99].getD (j - (3 : Nat)) (q123_100 x0 i j) else q123_100 x0 i j) = ltrCell x4.snd.pk i j) ∧ q123_30 x4) ∧
  True) ∧ True) ∧ True) ∧ True) ∧ True) ∧ True) ∧ True) (True ∧ sw (!q123_31 x3) q123_1 True ∧ q123_33 x3 ∧ q123_34 x3 ∧ q123_35 x3 ∧ q123_37 x3 ∧ q123_32 x3 ∧
  True ∧ True ∧ True ∧ sw (q123_101 x0 x3) (SV.p (8 : Nat) (7 : Nat) = SV.p (8 : Nat) (7 : Nat)) True ∧ sw (q123_101 x0 x3) (q123_102 x0 x3 ∧ SV.c (Value.int IntKind.u32 x0.fst.g) = SV.c (Value.int IntKind.u32 x0.fst.g)) True ∧
  sw (q123_101 x0 x3) q123_1 True ∧ sw (q123_101 x0 x3) (q123_102 x0 x3 ∧ q123_1) True ∧ sw (q123_101 x0 x3) (q123_102 x0 x3 ∧ SV.p (3 : Nat) (15 : Nat) = SV.p (3 : Nat) (15 : Nat)) True ∧
  sw (q123_101 x0 x3) (q123_102 x0 x3 ∧ SV.p (3 : Nat) (15 : Nat) = SV.p (3 : Nat) (15 : Nat)) True ∧ sw (q123_101 x0 x3) (q123_102 x0 x3 ∧ SV.c (Value.int IntKind.u32 x3.pt) = SV.c (Value.int IntKind.u32 x3.pt)) True ∧
  sw (q123_101 x0 x3) (q123_102 x0 x3 ∧ q123_102 x0 x3 ∧ True ∧ SV.c (Value.bool (decide (x0.fst.g = x3.pt))) = SV.c (Value.bool (decide (x0.fst.g = x3.pt)))) True ∧
  q123_102 x0 x3 ∧ sw (q123_103 x0 x3) (SV.p (8 : Nat) (6 : Nat) = SV.p (8 : Nat) (6 : Nat)) True ∧ sw (q123_103 x0 x3) ([q123_103 x0 x3] = [q123_103 x0 x3] ∧
  SV.c (Value.int IntKind.u32 x0.fst.f) = SV.c (Value.int IntKind.u32 x0.fst.f)) True ∧ sw (q123_103 x0 x3) ([q123_103 x0 x3] = [q123_103 x0 x3] ∧ True ∧
  SV.c (Value.bool (q123_104 x0)) = SV.c (Value.bool (q123_104 x0))) True ∧ [q123_103 x0 x3] = [q123_103 x0 x3] ∧ sw (q123_105 x0 x3) (SV.p (8 : Nat) (7 : Nat) = SV.p (8 : Nat) (7 : Nat)) True ∧
  sw (q123_105 x0 x3) ([q123_105 x0 x3] = [q123_105 x0 x3] ∧ SV.c (Value.int IntKind.u32 x0.fst.g) = SV.c (Value.int IntKind.u32 x0.fst.g)) True ∧ sw (q123_105 x0 x3) ([q123_105 x0 x3] = [q123_105 x0 x3] ∧
  True ∧ SV.c (Value.bool (q123_106 x0)) = SV.c (Value.bool (q123_106 x0))) True ∧ [q123_105 x0 x3] = [q123_105 x0 x3] ∧ True ∧ sw (q123_5 x3) (q123_117 x3 x4 x0) (True ∧
  sw (q123_12 x3) ((((True ∧ (40 : Nat) ≤ (140737488355328 : Nat) ∧ (True ∧ q123_13 ∧ (q123_16 x3 ∧ q123_13 ∧ (True ∧ True ∧ x3.key = x4.fst.key ∧ x3.win = x4.fst.win ∧
  x3.life = x4.fst.life ∧ x3.rto = x4.fst.rto ∧ x3.tries = x4.fst.tries ∧ x3.ltag = x4.fst.ltag ∧ q123_17 x3 x4 ∧ q123_18 x3 x4 ∧ q123_19 x3 x4 ∧ x3.at_ = x4.fst.at_ ∧
  x3.left = x4.fst.left ∧ x3.set = x4.fst.set ∧ x3.st = x4.fst.st ∧ x3.mt = x4.fst.mt ∧ x3.ms = x4.fst.ms ∧ x3.pt = x4.fst.pt ∧ x3.ps = x4.fst.ps ∧ q123_20 ∧
  noOut.ev = [] ∧ q123_26 x4 x3 ∧ q123_27 x4 ∧ (true && true && true) = true) ∧
  True) ∧ True) ∧ True) ∧ True) ∧ True) ∧ True) (sw (!q123_118 x0 x3) (SV.c (Value.bool (q123_119 x0 x3)) = SV.c (Value.bool (q123_119 x0 x3))) True ∧ sw (!q123_118 x0 x3) ([!q123_118 x0 x3] = [!q123_118 x0 x3] ∧
  SV.c (Value.bool !q123_119 x0 x3) = SV.c (Value.bool !q123_119 x0 x3)) True ∧ [!q123_118 x0 x3] = [!q123_118 x0 x3] ∧ sw (q123_120 x0 x3) (SV.c (Value.bool (q123_105 x0 x3 && q123_106 x0)) = SV.c (Value.bool (q123_105 x0 x3 && q123_106 x0))) True ∧
  [q123_120 x0 x3] = [q123_120 x0 x3] ∧ sw (q123_120 x0 x3 && (q123_105 x0 x3 && q123_106 x0)) (q123_121 x3 x4 x0) (sw (q123_118 x0 x3) (SV.c (Value.bool (q123_119 x0 x3)) = SV.c (Value.bool (q123_119 x0 x3))) True ∧
  q123_123 x0 x3 ∧ q123_123 x0 x3 ∧ sw (!!q123_119 x0 x3 && q123_118 x0 x3) (SV.c (Value.bool (q123_38 x3)) = SV.c (Value.bool (q123_38 x3))) True ∧ sw (q123_118 x0 x3) (q123_122 x0 x3 ∧
  [!!q123_119 x0 x3, q123_118 x0 x3] = [!!q123_119 x0 x3, q123_118 x0 x3] ∧ SV.c (Value.bool (!q123_119 x0 x3 || q123_38 x3)) = SV.c (Value.bool (!q123_119 x0 x3 || q123_38 x3))) True ∧
  q123_122 x0 x3 ∧ sw (q123_118 x0 x3 && (!q123_119 x0 x3 || q123_38 x3)) (sw (q123_38 x3) (q123_117 x3 x4 x0) (q123_121 x3 x4 x0)) (sw (q123_118 x0 x3) (SV.c (Value.bool (q123_119 x0 x3)) = SV.c (Value.bool (q123_119 x0 x3))) True ∧
  q123_122 x0 x3 ∧ sw (q123_118 x0 x3 && q123_119 x0 x3) (((((True ∧ (40 : Nat) ≤ (140737488355328 : Nat) ∧ (True ∧ q123_13 ∧ (q123_107 ∧ q123_13 ∧ (True ∧
  True ∧ x3.key = x4.fst.key ∧ x3.win = x4.fst.win ∧ x3.life = x4.fst.life ∧ x3.rto = x4.fst.rto ∧ x3.tries = x4.fst.tries ∧ x3.ltag = x4.fst.ltag ∧ q123_17 x3 x4 ∧
  q123_18 x3 x4 ∧ q123_19 x3 x4 ∧ x3.at_ = x4.fst.at_ ∧ x3.left = x4.fst.left ∧ x3.set = x4.fst.set ∧ x3.st = x4.fst.st ∧ x3.mt = x4.fst.mt ∧ x3.ms = x4.fst.ms ∧
  x3.pt = x4.fst.pt ∧ x3.ps = x4.fst.ps ∧ q123_20 ∧ noOut.ev = [] ∧ (q123_21 x4 ∧ ∀ (i : Nat), i < (1 : Nat) → ∀ (j : Nat), j < (4 : Nat) → (bif q123_22 i j then [D.ints IntKind.u8 []].getD (j - (3 : Nat)) ((D.v (Value.int IntKind.u32 x3.pt) :: D.v (Value.int IntKind.u8 (11 : Int)) :: q123_114).getD (q123_24 i + j) (D.v undef)) else (D.v (Value.int IntKind.u32 x3.pt) :: D.v (Value.int IntKind.u8 (11 : Int)) :: q123_114).getD (q123_24 i + j) (D.v undef)) = ltrCell x4.snd.pk i j) ∧
  q123_30 x4) ∧ True) ∧ True) ∧ True) ∧ True) ∧ True) ∧ True) ∧ True) (q123_61 x3 x4))))))) (q123_61 x3 x4)) ∧ True
@[reducible] def q123_125 (x0 : Int) (x1 : AsR) : Prop := [q123_91 x0 x1] = [q123_91 x0 x1]
@[reducible] def q123_126 : Prop := (true && true && true) = true
@[reducible] def q123_127 (x0 : AsR) : Prop := ∃ (h : HelR), ∃ (b : Bool), [O.agg [q123_43 x0, q123_50 x0, q123_51, q123_51, q123_45 x0, O.d (D.ints IntKind.u8 [])], O.d (D.v (Value.bool false))] = q123_53 h b ∧
  okHel h
@[reducible] noncomputable def q123_128 (x0 : AsR) : ChR := (fromHel (HelR.mk x0.mt x0.win (8 : Int) (8 : Int) x0.ms []) false).fst
@[reducible] noncomputable def q123_129 (x0 : AsR) (x1 : Nat) (x2 : Nat) : D := [D.v (Value.int IntKind.u32 (0 : Int)), D.v (Value.int IntKind.u8 (q123_128 x0).t), D.v (Value.int IntKind.u8 (q123_128 x0).f), D.ints IntKind.u8 (q123_128 x0).v].getD (q123_24 x1 + x2) (D.v undef)
@[reducible] def q123_130 (x0 : AsR) (x1 : AsR × OutR) (x2 : Int) : Prop := (True ∧ (((True ∧ (40 : Nat) ≤ (140737488355328 : Nat) ∧ (True ∧ q123_13 ∧ ((∃ (l : List Int), [O.d (D.ints IntKind.u8 (q123_128 x0).v)] = q123_14 l ∧
  q123_15 l) ∧ q123_13 ∧ (True ∧ True ∧ x0.key = x1.fst.key ∧ x0.win = x1.fst.win ∧ x0.life = x1.fst.life ∧ x0.rto = x1.fst.rto ∧ x0.tries = x1.fst.tries ∧
  q123_108 x1 ∧ (q123_128 x0).t = x1.fst.lch.t ∧ (q123_128 x0).f = x1.fst.lch.f ∧ (q123_128 x0).v = x1.fst.lch.v ∧ IntKind.i64.wrap (x2 + x0.rto) = x1.fst.at_ ∧
  x0.tries = x1.fst.left ∧ true = x1.fst.set ∧ (1 : Int) = x1.fst.st ∧ x0.mt = x1.fst.mt ∧ x0.ms = x1.fst.ms ∧ (0 : Int) = x1.fst.pt ∧ (0 : Int) = x1.fst.ps ∧
  q123_20 ∧ noOut.ev = [] ∧ (q123_21 x1 ∧ ∀ (i : Nat), i < (1 : Nat) → ∀ (j : Nat), j < (4 : Nat) → (bif q123_22 i j then [D.ints IntKind.u8 (q123_128 x0).v].getD (j - (3 : Nat)) (q123_129 x0 i j) else q123_129 x0 i j) = ltrCell x1.snd.pk i j) ∧
  q123_27 x1 ∧ (true && true && true) = true) ∧ True) ∧ True) ∧ True) ∧
  True) ∧ True) ∧ True) ∧ True
@[reducible] def q123_131 (x0 : ChR) (x1 : AsR) (x2 : AsR × OutR) (x3 : Int) : Prop := ((∃ (l : List Int), ∃ (m : List Int), [O.d (D.ints IntKind.u8 x0.v), O.d (D.ints IntKind.u8 q123_99)] = O.d (D.ints IntKind.u8 l) :: q123_14 m ∧
  q123_15 l) ∧ sw (decide (x0.v = q123_99)) ((q123_127 x1 ∧ q123_130 x1 x2 x3 ∧ True) ∧ ((q123_127 x1 ∧ q123_130 x1 x2 x3) ∧ True) ∧ True) (q123_61 x1 x2) ∧
  True) ∧ True
@[reducible] def q123_132 (x0 : AsR) (x1 : AsR × OutR) : Prop := IntKind.u64.wrap (x0.key + (1 : Int)) = x1.fst.key
@[reducible] def q123_133 (x0 : AsR) (x1 : ChR) : Prop := sw (q123_6 x0) (q123_39 x0 ∧ SV.c (Value.int IntKind.u8 x1.f) = SV.c (Value.int IntKind.u8 x1.f)) True
@[reducible] noncomputable def q123_134 (x0 : ChR) : SV := SV.c (Value.bool (decide (x0.f = (1 : Int))))
@[reducible] noncomputable def q123_135 (x0 : AsR) (x1 : ChR) : Bool := q123_6 x0 && decide (x1.f = (1 : Int))
@[reducible] def q123_136 (x0 : AsR) (x1 : ChR) : Prop := [q123_135 x0 x1] = [q123_135 x0 x1]
@[reducible] def q123_137 (x0 : AsR) (x1 : ChR) : Prop := sw (q123_135 x0 x1) (q123_136 x0 x1 ∧ SV.p (3 : Nat) (15 : Nat) = SV.p (3 : Nat) (15 : Nat)) True
@[reducible] def q123_138 (x0 : AsR) (x1 : ChR) : Prop := sw (q123_135 x0 x1) (q123_136 x0 x1 ∧ SV.c (Value.int IntKind.u32 x0.pt) = SV.c (Value.int IntKind.u32 x0.pt)) True
@[reducible] def q123_139 (x0 : AsR) (x1 : ChR) (x2 : Int) : Prop := sw (q123_135 x0 x1) (q123_136 x0 x1 ∧ q123_136 x0 x1 ∧ True ∧ SV.c (Value.bool (decide (x2 = x0.pt))) = SV.c (Value.bool (decide (x2 = x0.pt)))) True
@[reducible] noncomputable def q123_140 (x0 : AsR) (x1 : ChR) (x2 : Int) : Bool := q123_135 x0 x1 && decide (x2 = x0.pt)
@[reducible] def q123_141 (x0 : AsR) (x1 : ChR) (x2 : Int) : Prop := sw (q123_140 x0 x1 x2) ([q123_140 x0 x1 x2] = [q123_140 x0 x1 x2] ∧ True ∧ SV.c (Value.bool !q123_11 x2) = SV.c (Value.bool !q123_11 x2)) True
@[reducible] def q123_142 : Prop := (true && true && true) = true
@[reducible] noncomputable def q123_143 (x0 : AsR) : Bool := !decide (x0.st = (3 : Int))
@[reducible] def q123_144 (x0 : AsR) : Prop := [q123_143 x0] = [q123_143 x0]
@[reducible] noncomputable def q123_145 (x0 : AsR) : SV := SV.c (Value.bool (decide (x0.st = (4 : Int))))
@[reducible] noncomputable def q123_146 (x0 : AsR) : Bool := decide (x0.st = (5 : Int))
@[reducible] noncomputable def q123_147 (x0 : Int) (x1 : Nat) (x2 : Nat) : D := [D.v (Value.int IntKind.u32 x0), D.v (Value.int IntKind.u8 (14 : Int)), D.v (Value.int IntKind.u8 (1 : Int)), D.ints IntKind.u8 []].getD (q123_24 x1 + x2) (D.v undef)
@[reducible] noncomputable def q123_148 (x0 : AsR) (x1 : Int) : Bool := !q123_146 x0 && q123_91 x1 x0
@[reducible] def q123_149 (x0 : AsR) (x1 : Int) : Prop := [!q123_146 x0, q123_91 x1 x0] = [!q123_146 x0, q123_91 x1 x0]
set_option maxHeartbeats 4000000 in
theorem vc123 : ∀ (s : AsR) (t : Int) (c : ChR), have y := openF s.key c.v; ∀ (w : Int), have y_1 := sealF s.key (CruR.mk w s.mt (toHel c).fst.tag s.ms (toHel c).fst.tsn (toHel c).fst.win (0 : Int) (0 : Int));
  ∀ (d : Int), have y_2 := recvA s t c w d; okAs s → okLt t c → okNow w → okU d → True ∧ sw (q123_0 t s) q123_1 True ∧ sw (q123_0 t s) (q123_2 t s ∧ q123_1) True ∧
  sw (q123_0 t s) (q123_2 t s ∧ q123_3) True ∧ sw (q123_0 t s) (q123_2 t s ∧ q123_4 s) True ∧ sw (q123_0 t s) (q123_2 t s ∧ True ∧ SV.c (Value.bool (q123_6 s)) = SV.c (Value.bool (q123_6 s))) True ∧
  q123_2 t s ∧ True ∧ sw (decide (c.t = (1 : Int))) (q123_8 c ∧ True ∧ sw (q123_9 c) (q123_10 t) True ∧ sw (q123_9 c) ([q123_9 c] = [q123_9 c] ∧ True ∧ SV.c (Value.bool (q123_11 t)) = SV.c (Value.bool (q123_11 t))) True ∧
  [q123_9 c] = [q123_9 c] ∧ sw (q123_9 c && q123_11 t) (True ∧ sw (q123_12 s) ((((True ∧ (40 : Nat) ≤ (140737488355328 : Nat) ∧ (True ∧ q123_13 ∧ (q123_16 s ∧
  q123_13 ∧ (True ∧ True ∧ s.key = y_2.fst.key ∧ s.win = y_2.fst.win ∧ s.life = y_2.fst.life ∧ s.rto = y_2.fst.rto ∧ s.tries = y_2.fst.tries ∧ s.ltag = y_2.fst.ltag ∧
  q123_17 s y_2 ∧ q123_18 s y_2 ∧ q123_19 s y_2 ∧ s.at_ = y_2.fst.at_ ∧ s.left = y_2.fst.left ∧ s.set = y_2.fst.set ∧ s.st = y_2.fst.st ∧ s.mt = y_2.fst.mt ∧
  s.ms = y_2.fst.ms ∧ s.pt = y_2.fst.pt ∧ s.ps = y_2.fst.ps ∧ q123_20 ∧ noOut.ev = [] ∧ q123_26 y_2 s ∧ q123_30 y_2) ∧ True) ∧ True) ∧ True) ∧ True) ∧ True) ∧
  True) (True ∧ sw (q123_11 d) (True ∧ sw (!q123_31 s) q123_1 True ∧ q123_33 s ∧ q123_34 s ∧ q123_35 s ∧ q123_37 s ∧ q123_32 s ∧ sw (q123_38 s) (q123_67 s w c y_2 y_1) (True ∧
  sw (q123_6 s) q123_1 True ∧ sw (q123_6 s) (q123_39 s ∧ q123_1) True ∧ sw (q123_6 s) (q123_39 s ∧ q123_3) True ∧ sw (q123_6 s) (q123_39 s ∧ q123_4 s) True ∧
  q123_40 s ∧ q123_39 s ∧ sw (q123_6 s && !q123_31 s) (((((∃ (k : Int), ∃ (c_1 : CruR), [q123_41 s, O.agg (q123_42 w :: q123_68 :: O.d (q123_44 c) :: q123_69 :: q123_46 c s)] = q123_48 k c_1 ∧
  okCru c_1) ∧ True ∧ sw (decide ((sealF s.key (CruR.mk w (1 : Int) (toHel c).fst.tag (4294967295 : Int) (toHel c).fst.tsn (toHel c).fst.win s.mt s.pt)).snd = (0 : Int))) ((∀ (t_1 : Bool), (t_1 = false →
  (q123_70 s w c).length = (0 : Nat)) → (q123_71 s w c t_1 ∧ q123_74 s w c t_1 y_2 ∧ True) ∧ ((q123_71 s w c t_1 ∧ q123_74 s w c t_1 y_2) ∧ True) ∧ True) ∧
  True) (q123_61 s y_2)) ∧ True) ∧ True) ∧ True) (((∃ (k : Int), ∃ (c_1 : CruR), [q123_41 s, O.agg (q123_42 w :: q123_68 :: O.d (q123_44 c) :: q123_69 :: q123_62 c)] = q123_48 k c_1 ∧
  okCru c_1) ∧ True ∧ sw (decide (q123_75 s w c = (0 : Int))) ((∀ (t_1 : Bool), (t_1 = false → (q123_76 s w c).length = (0 : Nat)) → (q123_77 s w c t_1 ∧
  q123_80 s w c t_1 y_2 ∧ True) ∧ ((q123_77 s w c t_1 ∧ q123_80 s w c t_1 y_2) ∧ True) ∧ True) ∧ True) (q123_61 s y_2)) ∧ True))) (True ∧ sw (!q123_31 s) q123_1 True ∧
  q123_33 s ∧ q123_34 s ∧ q123_35 s ∧ q123_37 s ∧ q123_32 s ∧ sw (q123_38 s) (q123_67 s w c y_2 y_1) (True ∧ sw (q123_6 s) q123_1 True ∧ sw (q123_6 s) (q123_39 s ∧
  q123_1) True ∧ sw (q123_6 s) (q123_39 s ∧ q123_3) True ∧ sw (q123_6 s) (q123_39 s ∧ q123_4 s) True ∧ q123_40 s ∧ q123_39 s ∧ sw (q123_6 s && !q123_31 s) (((((∃ (k : Int), ∃ (c_1 : CruR), [q123_41 s, O.agg (q123_42 w :: iO .u32 d :: O.d (q123_44 c) :: q123_82 d :: q123_46 c s)] = q123_48 k c_1 ∧
  okCru c_1) ∧ True ∧ sw (decide ((sealF s.key (CruR.mk w d (toHel c).fst.tag (q123_81 d) (toHel c).fst.tsn (toHel c).fst.win s.mt s.pt)).snd = (0 : Int))) ((∀ (t_1 : Bool), (t_1 = false →
  (q123_83 s w d c).length = (0 : Nat)) → (q123_84 d s w c t_1 ∧ q123_86 d s w c t_1 y_2 ∧ True) ∧ ((q123_84 d s w c t_1 ∧ q123_86 d s w c t_1 y_2) ∧ True) ∧
  True) ∧ True) (q123_61 s y_2)) ∧ True) ∧ True) ∧ True) (((∃ (k : Int), ∃ (c_1 : CruR), [q123_41 s, O.agg (q123_42 w :: iO .u32 d :: O.d (q123_44 c) :: q123_82 d :: q123_62 c)] = q123_48 k c_1 ∧
  okCru c_1) ∧ True ∧ sw (decide ((sealF s.key (CruR.mk w d (toHel c).fst.tag (q123_81 d) (toHel c).fst.tsn (toHel c).fst.win (0 : Int) (0 : Int))).snd = (0 : Int))) ((∀ (t_1 : Bool), (t_1 = false →
  (q123_87 s w d c).length = (0 : Nat)) → (q123_88 d s w c t_1 ∧ q123_90 d s w c t_1 y_2 ∧ True) ∧ ((q123_88 d s w c t_1 ∧ q123_90 d s w c t_1 y_2) ∧ True) ∧
  True) ∧ True) (q123_61 s y_2)) ∧ True))))) (q123_61 s y_2)) (True ∧ sw (decide (c.t = (2 : Int))) (q123_8 c ∧ True ∧ sw (q123_9 c) (SV.c (Value.bool (q123_91 t s)) = SV.c (Value.bool (q123_91 t s))) True ∧
  [q123_9 c] = [q123_9 c] ∧ sw (q123_92 c t s) q123_1 True ∧ sw (q123_92 c t s) (q123_93 c t s ∧ q123_1) True ∧ sw (q123_92 c t s) (q123_93 c t s ∧ q123_3) True ∧
  sw (q123_92 c t s) (q123_93 c t s ∧ q123_4 s) True ∧ sw (q123_92 c t s) (q123_93 c t s ∧ True ∧ SV.c (Value.bool (q123_31 s)) = SV.c (Value.bool (q123_31 s))) True ∧
  q123_93 c t s ∧ sw (q123_92 c t s && q123_31 s) (True ∧ (((True ∧ (40 : Nat) ≤ (140737488355328 : Nat) ∧ (True ∧ q123_13 ∧ ((∃ (l : List Int), [O.d (D.ints IntKind.u8 (toHel c).fst.cookie)] = q123_14 l ∧
  q123_15 l) ∧ q123_13 ∧ (True ∧ True ∧ s.key = y_2.fst.key ∧ s.win = y_2.fst.win ∧ s.life = y_2.fst.life ∧ s.rto = y_2.fst.rto ∧ s.tries = y_2.fst.tries ∧
  (toHel c).fst.tag = y_2.fst.ltag ∧ (10 : Int) = y_2.fst.lch.t ∧ q123_94 y_2 ∧ (toHel c).fst.cookie = y_2.fst.lch.v ∧ IntKind.i64.wrap (w + s.rto) = y_2.fst.at_ ∧
  s.tries = y_2.fst.left ∧ true = y_2.fst.set ∧ (2 : Int) = y_2.fst.st ∧ s.mt = y_2.fst.mt ∧ s.ms = y_2.fst.ms ∧ (toHel c).fst.tag = y_2.fst.pt ∧ (toHel c).fst.tsn = y_2.fst.ps ∧
  q123_20 ∧ noOut.ev = [] ∧ (q123_21 y_2 ∧ ∀ (i : Nat), i < (1 : Nat) → ∀ (j : Nat), j < (4 : Nat) → (bif q123_22 i j then [D.ints IntKind.u8 (toHel c).fst.cookie].getD (j - (3 : Nat)) (q123_95 c i j) else q123_95 c i j) = ltrCell y_2.snd.pk i j) ∧
  q123_30 y_2) ∧ True) ∧ True) ∧ True) ∧ True) ∧ True) ∧ True) (q123_61 s y_2)) (True ∧ sw (decide (c.t = (10 : Int))) ((q123_96 s c ∧ q123_124 y t w s y_2 ∧
  True) ∧ ((q123_96 s c ∧ q123_124 y t w s y_2) ∧ True) ∧ True) (True ∧ sw (decide (c.t = (11 : Int))) (sw (q123_91 t s) q123_1 True ∧ sw (q123_91 t s) (q123_125 t s ∧
  q123_1) True ∧ sw (q123_91 t s) (q123_125 t s ∧ q123_3) True ∧ sw (q123_91 t s) (q123_125 t s ∧ q123_4 s) True ∧ sw (q123_91 t s) (q123_125 t s ∧ True ∧
  SV.c (Value.bool (q123_36 s)) = SV.c (Value.bool (q123_36 s))) True ∧ q123_125 t s ∧ sw (q123_91 t s && q123_36 s) (True ∧ (8 : Nat) ≤ (140737488355328 : Nat) ∧
  True ∧ s.key = y_2.fst.key ∧ s.win = y_2.fst.win ∧ s.life = y_2.fst.life ∧ s.rto = y_2.fst.rto ∧ s.tries = y_2.fst.tries ∧ q123_108 y_2 ∧ q123_109 y_2 ∧
  q123_94 y_2 ∧ q123_110 y_2 ∧ q123_111 y_2 ∧ q123_112 y_2 ∧ q123_113 y_2 ∧ (3 : Int) = y_2.fst.st ∧ s.mt = y_2.fst.mt ∧ s.ms = y_2.fst.ms ∧ s.pt = y_2.fst.pt ∧
  s.ps = y_2.fst.ps ∧ q123_20 ∧ noOut.ev = [] ∧ q123_59 y_2 ∧ noOut.ev ++ [(1 : Int)] = y_2.snd.ev ∧ q123_126) (q123_61 s y_2)) (True ∧ sw (decide (c.t = (9 : Int))) (sw (q123_91 t s) (True ∧
  (sw (q123_36 s) (q123_131 c s y_2 w ∧ True) ((((q123_61 s y_2 ∧ True) ∧ True) ∧ True) ∧ (((q123_61 s y_2 ∧ True) ∧ True) ∧ True) ∧ True) ∧ sw (q123_36 s) (q123_131 c s y_2 w) ((((q123_61 s y_2 ∧
  True) ∧ True) ∧ True) ∧ True) ∧ True) ∧ True) ((((((((((q123_61 s y_2 ∧ True) ∧ True) ∧ True) ∧ (((q123_61 s y_2 ∧ True) ∧ True) ∧ True) ∧ True) ∧ ((((q123_61 s y_2 ∧
  True) ∧ True) ∧ True) ∧ True) ∧ True) ∧ True) ∧ True) ∧ True) ∧ True) ∧ True) ∧ True) (True ∧ sw (decide (c.t = (6 : Int))) (sw (q123_91 t s) (True ∧ True ∧
  (8 : Nat) ≤ (140737488355328 : Nat) ∧ True ∧ q123_132 s y_2 ∧ s.win = y_2.fst.win ∧ s.life = y_2.fst.life ∧ s.rto = y_2.fst.rto ∧ s.tries = y_2.fst.tries ∧
  q123_108 y_2 ∧ q123_109 y_2 ∧ q123_94 y_2 ∧ q123_110 y_2 ∧ q123_111 y_2 ∧ q123_112 y_2 ∧ q123_113 y_2 ∧ (0 : Int) = y_2.fst.st ∧ (0 : Int) = y_2.fst.mt ∧
  (0 : Int) = y_2.fst.ms ∧ (0 : Int) = y_2.fst.pt ∧ (0 : Int) = y_2.fst.ps ∧ q123_20 ∧ noOut.ev = [] ∧ q123_59 y_2 ∧ noOut.ev ++ [(3 : Int)] = y_2.snd.ev ∧
  q123_126) (True ∧ sw (q123_6 s) (SV.p (7 : Nat) (1 : Nat) = SV.p (7 : Nat) (1 : Nat)) True ∧ q123_133 s c ∧ sw (q123_6 s) (q123_39 s ∧ True ∧ q123_134 c = q123_134 c) True ∧
  q123_39 s ∧ sw (q123_135 s c) (q123_10 t) True ∧ sw (q123_135 s c) q123_1 True ∧ sw (q123_135 s c) (q123_136 s c ∧ q123_1) True ∧ q123_137 s c ∧ q123_137 s c ∧
  q123_138 s c ∧ q123_139 s c t ∧ q123_136 s c ∧ sw (q123_140 s c t) (q123_10 t) True ∧ q123_141 s c t ∧ [q123_140 s c t] = [q123_140 s c t] ∧ sw (q123_140 s c t && !q123_11 t) (True ∧
  True ∧ (8 : Nat) ≤ (140737488355328 : Nat) ∧ True ∧ q123_132 s y_2 ∧ s.win = y_2.fst.win ∧ s.life = y_2.fst.life ∧ s.rto = y_2.fst.rto ∧ s.tries = y_2.fst.tries ∧
  q123_108 y_2 ∧ q123_109 y_2 ∧ q123_94 y_2 ∧ q123_110 y_2 ∧ q123_111 y_2 ∧ q123_112 y_2 ∧ q123_113 y_2 ∧ (0 : Int) = y_2.fst.st ∧ (0 : Int) = y_2.fst.mt ∧
  (0 : Int) = y_2.fst.ms ∧ (0 : Int) = y_2.fst.pt ∧ (0 : Int) = y_2.fst.ps ∧ q123_20 ∧ noOut.ev = [] ∧ q123_59 y_2 ∧ noOut.ev ++ [(3 : Int)] = y_2.snd.ev ∧
  q123_142) (q123_61 s y_2))) (True ∧ sw (decide (c.t = (7 : Int))) (sw (!q123_91 t s) (q123_61 s y_2) (True ∧ sw (q123_143 s) q123_1 True ∧ sw (q123_143 s) (q123_144 s ∧
  q123_1) True ∧ sw (q123_143 s) (q123_144 s ∧ q123_3) True ∧ sw (q123_143 s) (q123_144 s ∧ q123_4 s) True ∧ sw (q123_143 s) (q123_144 s ∧ True ∧ q123_145 s = q123_145 s) True ∧
  q123_144 s ∧ sw (decide (s.st = (3 : Int)) || decide (s.st = (4 : Int))) (True ∧ s.key = y_2.fst.key ∧ s.win = y_2.fst.win ∧ s.life = y_2.fst.life ∧ s.rto = y_2.fst.rto ∧
  s.tries = y_2.fst.tries ∧ q123_108 y_2 ∧ q123_109 y_2 ∧ q123_94 y_2 ∧ q123_110 y_2 ∧ q123_111 y_2 ∧ q123_112 y_2 ∧ q123_113 y_2 ∧ (6 : Int) = y_2.fst.st ∧
  q123_60 s y_2) (True ∧ sw (q123_146 s) (((True ∧ (((True ∧ (40 : Nat) ≤ (140737488355328 : Nat) ∧ (True ∧ q123_13 ∧ (q123_107 ∧ q123_13 ∧ (True ∧ True ∧
  s.key = y_2.fst.key ∧ s.win = y_2.fst.win ∧ s.life = y_2.fst.life ∧ s.rto = y_2.fst.rto ∧ s.tries = y_2.fst.tries ∧ s.pt = y_2.fst.ltag ∧ (8 : Int) = y_2.fst.lch.t ∧
  q123_94 y_2 ∧ q123_110 y_2 ∧ IntKind.i64.wrap (w + s.rto) = y_2.fst.at_ ∧ s.tries = y_2.fst.left ∧ true = y_2.fst.set ∧ (7 : Int) = y_2.fst.st ∧ s.mt = y_2.fst.mt ∧
  s.ms = y_2.fst.ms ∧ s.pt = y_2.fst.pt ∧ s.ps = y_2.fst.ps ∧ q123_20 ∧ noOut.ev = [] ∧ (q123_21 y_2 ∧ ∀ (i : Nat), i < (1 : Nat) → ∀ (j : Nat), j < (4 : Nat) →
  (bif q123_22 i j then [D.ints IntKind.u8 []].getD (j - (3 : Nat)) ((D.v (Value.int IntKind.u32 s.pt) :: D.v (Value.int IntKind.u8 (8 : Int)) :: q123_114).getD (q123_24 i + j) (D.v undef)) else (D.v (Value.int IntKind.u32 s.pt) :: D.v (Value.int IntKind.u8 (8 : Int)) :: q123_114).getD (q123_24 i + j) (D.v undef)) = ltrCell y_2.snd.pk i j) ∧
  q123_30 y_2) ∧ True) ∧ True) ∧ True) ∧ True) ∧ True) ∧ True) ∧ True) ∧ True) (q123_61 s y_2)))) (True ∧ sw (decide (c.t = (8 : Int))) (True ∧ sw (q123_5 s) (((True ∧
  (40 : Nat) ≤ (140737488355328 : Nat) ∧ (True ∧ q123_13 ∧ (q123_107 ∧ q123_13 ∧ (True ∧ True ∧ s.key = y_2.fst.key ∧ s.win = y_2.fst.win ∧ s.life = y_2.fst.life ∧
  s.rto = y_2.fst.rto ∧ s.tries = y_2.fst.tries ∧ s.ltag = y_2.fst.ltag ∧ q123_17 s y_2 ∧ q123_18 s y_2 ∧ q123_19 s y_2 ∧ s.at_ = y_2.fst.at_ ∧ s.left = y_2.fst.left ∧
  s.set = y_2.fst.set ∧ s.st = y_2.fst.st ∧ s.mt = y_2.fst.mt ∧ s.ms = y_2.fst.ms ∧ s.pt = y_2.fst.pt ∧ s.ps = y_2.fst.ps ∧ q123_20 ∧ noOut.ev = [] ∧ (q123_21 y_2 ∧
  ∀ (i : Nat), i < (1 : Nat) → ∀ (j : Nat), j < (4 : Nat) → (bif q123_22 i j then [D.ints IntKind.u8 []].getD (j - (3 : Nat)) (q123_147 t i j) else q123_147 t i j) = ltrCell y_2.snd.pk i j) ∧
  q123_27 y_2 ∧ (true && true && true) = true) ∧ True) ∧ True) ∧ True) ∧
  True) ∧ True) (sw (q123_91 t s) q123_1 True ∧ sw (q123_91 t s) (q123_125 t s ∧ q123_1) True ∧ sw (q123_91 t s) (q123_125 t s ∧ q123_3) True ∧ sw (q123_91 t s) (q123_125 t s ∧
  q123_4 s) True ∧ sw (q123_91 t s) (q123_125 t s ∧ True ∧ SV.c (Value.bool (q123_146 s)) = SV.c (Value.bool (q123_146 s))) True ∧ sw (q123_91 t s) (q123_125 t s ∧
  SV.c (Value.bool (q123_146 s)) = SV.c (Value.bool (q123_146 s))) True ∧ sw (q123_148 s t) q123_1 True ∧ sw (q123_148 s t) (q123_149 s t ∧ q123_1) True ∧
  sw (q123_148 s t) (q123_149 s t ∧ q123_3) True ∧ sw (q123_148 s t) (q123_149 s t ∧ q123_4 s) True ∧ sw (q123_148 s t) (q123_149 s t ∧ True ∧ SV.c (Value.bool (q123_12 s)) = SV.c (Value.bool (q123_12 s))) True ∧
  sw (q123_91 t s) (q123_125 t s ∧ q123_149 s t ∧ SV.c (Value.bool (q123_146 s || q123_12 s)) = SV.c (Value.bool (q123_146 s || q123_12 s))) True ∧ q123_125 t s ∧
  sw (q123_91 t s && (q123_146 s || q123_12 s)) (((((True ∧ (40 : Nat) ≤ (140737488355328 : Nat) ∧ (True ∧ True ∧ (8 : Nat) ≤ (140737488355328 : Nat) ∧ True ∧
  q123_13 ∧ (q123_107 ∧ q123_13 ∧ (True ∧ True ∧ q123_132 s y_2 ∧ s.win = y_2.fst.win ∧ s.life = y_2.fst.life ∧ s.rto = y_2.fst.rto ∧ s.tries = y_2.fst.tries ∧
  q123_108 y_2 ∧ q123_109 y_2 ∧ q123_94 y_2 ∧ q123_110 y_2 ∧ q123_111 y_2 ∧ q123_112 y_2 ∧ q123_113 y_2 ∧ (0 : Int) = y_2.fst.st ∧ (0 : Int) = y_2.fst.mt ∧
  (0 : Int) = y_2.fst.ms ∧ (0 : Int) = y_2.fst.pt ∧ (0 : Int) = y_2.fst.ps ∧ q123_20 ∧ noOut.ev = [] ∧ (q123_21 y_2 ∧ ∀ (i : Nat), i < (1 : Nat) → ∀ (j : Nat), j < (4 : Nat) →
  (bif q123_22 i j then [D.ints IntKind.u8 []].getD (j - (3 : Nat)) ((D.v (Value.int IntKind.u32 s.pt) :: D.v (Value.int IntKind.u8 (14 : Int)) :: q123_114).getD (q123_24 i + j) (D.v undef)) else (D.v (Value.int IntKind.u32 s.pt) :: D.v (Value.int IntKind.u8 (14 : Int)) :: q123_114).getD (q123_24 i + j) (D.v undef)) = ltrCell y_2.snd.pk i j) ∧
  noOut.ev ++ [(4 : Int)] = y_2.snd.ev ∧ (true && true && true) = true) ∧
  True) ∧ True) ∧ True) ∧ True) ∧ True) ∧ True) ∧ True) (q123_61 s y_2))) (True ∧ sw (decide (c.t = (14 : Int))) (True ∧ sw (q123_12 s) (sw (q123_91 t s) (True ∧
  True ∧ (8 : Nat) ≤ (140737488355328 : Nat) ∧ True ∧ q123_132 s y_2 ∧ s.win = y_2.fst.win ∧ s.life = y_2.fst.life ∧ s.rto = y_2.fst.rto ∧ s.tries = y_2.fst.tries ∧
  q123_108 y_2 ∧ q123_109 y_2 ∧ q123_94 y_2 ∧ q123_110 y_2 ∧ q123_111 y_2 ∧ q123_112 y_2 ∧ q123_113 y_2 ∧ (0 : Int) = y_2.fst.st ∧ (0 : Int) = y_2.fst.mt ∧
  (0 : Int) = y_2.fst.ms ∧ (0 : Int) = y_2.fst.pt ∧ (0 : Int) = y_2.fst.ps ∧ q123_20 ∧ noOut.ev = [] ∧ q123_59 y_2 ∧ noOut.ev ++ [(4 : Int)] = y_2.snd.ev ∧
  q123_142) (True ∧ sw (q123_6 s) (SV.p (8 : Nat) (1 : Nat) = SV.p (8 : Nat) (1 : Nat)) True ∧ q123_133 s c ∧ sw (q123_6 s) (q123_39 s ∧ True ∧ q123_134 c = q123_134 c) True ∧
  q123_39 s ∧ sw (q123_135 s c) (q123_10 t) True ∧ sw (q123_135 s c) q123_1 True ∧ sw (q123_135 s c) (q123_136 s c ∧ q123_1) True ∧ q123_137 s c ∧ q123_137 s c ∧
  q123_138 s c ∧ q123_139 s c t ∧ q123_136 s c ∧ sw (q123_140 s c t) (q123_10 t) True ∧ q123_141 s c t ∧ [q123_140 s c t] = [q123_140 s c t] ∧ sw (q123_140 s c t && !q123_11 t) (True ∧
  True ∧ (8 : Nat) ≤ (140737488355328 : Nat) ∧ True ∧ q123_132 s y_2 ∧ s.win = y_2.fst.win ∧ s.life = y_2.fst.life ∧ s.rto = y_2.fst.rto ∧ s.tries = y_2.fst.tries ∧
  q123_108 y_2 ∧ q123_109 y_2 ∧ q123_94 y_2 ∧ q123_110 y_2 ∧ q123_111 y_2 ∧ q123_112 y_2 ∧ q123_113 y_2 ∧ (0 : Int) = y_2.fst.st ∧ (0 : Int) = y_2.fst.mt ∧
  (0 : Int) = y_2.fst.ms ∧ (0 : Int) = y_2.fst.pt ∧ (0 : Int) = y_2.fst.ps ∧ q123_20 ∧ noOut.ev = [] ∧ q123_59 y_2 ∧ noOut.ev ++ [(4 : Int)] = y_2.snd.ev ∧
  (true && true && true) = true) (q123_61 s y_2))) (q123_61 s y_2)) (q123_61 s y_2))))))))) := by
  delta q123_0 q123_1 q123_2 q123_3 q123_4 q123_5 q123_6 q123_7 q123_8 q123_9 q123_10 q123_11 q123_12 q123_13 q123_14 q123_15 q123_16 q123_17 q123_18
    q123_19 q123_20 q123_21 q123_22 q123_24 q123_25 q123_26 q123_27 q123_30 q123_31 q123_32 q123_33 q123_34 q123_35 q123_36 q123_37 q123_38 q123_39
    q123_40 q123_41 q123_42 q123_43 q123_44 q123_45 q123_46 q123_47 q123_48 q123_49 q123_50 q123_51 q123_52 q123_53 q123_54 q123_55 q123_56 q123_57
    q123_58 q123_59 q123_60 q123_61 q123_62 q123_63 q123_64 q123_65 q123_66 q123_67 q123_68 q123_69 q123_70 q123_71 q123_72 q123_73 q123_74 q123_75
    q123_76 q123_77 q123_78 q123_79 q123_80 q123_81 q123_82 q123_83 q123_84 q123_85 q123_86 q123_87 q123_88 q123_89 q123_90 q123_91 q123_92 q123_93
    q123_94 q123_95 q123_96 q123_97 q123_98 q123_99 q123_100 q123_101 q123_102 q123_103 q123_104 q123_105 q123_106 q123_107 q123_108 q123_109 q123_110
    q123_111 q123_112 q123_113 q123_114 q123_115 q123_116 q123_117 q123_118 q123_119 q123_120 q123_121 q123_122 q123_123 q123_124 q123_125 q123_126
    q123_127 q123_128 q123_129 q123_130 q123_131 q123_132 q123_133 q123_134 q123_135 q123_136 q123_137 q123_138 q123_139 q123_140 q123_141 q123_142
    q123_143 q123_144 q123_145 q123_146 q123_147 q123_148 q123_149 iO
  simp only [↓sw_iff, ↓Bool.and_eq_true, ↓Bool.and_eq_false_iff, ↓decide_eq_true_eq, ↓decide_eq_false_iff_not, ↓Bool.not_eq_true', ↓Bool.not_eq_false', true_and, and_true, implies_true, size142, wrap_key]
  simp only [Bool.or_eq_true, Bool.or_eq_false_iff, decide_eq_true_eq, decide_eq_false_iff_not, Bool.not_eq_true', Bool.not_eq_false']
  intro s t c w d hs hc hw hd
  have c_eta : ChR.mk c.t c.f c.v = c := rfl
  have wd : IntKind.u32.wrap (4294967295 - d) = 4294967295 - d := by rw [IntKind.wrap_u32]; unfold okU at hd; omega
  have bx := xor_max hd
  simp only [wrap_rto hs hw, bx]
  generalize e : recvA s t c w d = r
  have hv := sm_lch hs
  have hcv : sm c.v.length := by have := hc.2.2; unfold sm; omega
  have hcB := hc.2.1.2.2
  have hth := toHel_okHel hcB hcv
  have hop := open_okCru (k := s.key) hcB
  have hlife := hs.life
  have hz : s.st ≠ 0 ∨ (s.mt = 0 ∧ s.ms = 0 ∧ s.pt = 0 ∧ s.ps = 0) := by
    by_cases h : s.st = 0
    · obtain ⟨z1, z2, z3, z4, _⟩ := hs.zero h
      exact .inr ⟨z1, z2, z3, z4⟩
    · exact .inl h
  have hst := hs.st
  unfold recvA at e
  repeat' (first
    | (refine (show (_ = r.fst.key) ∧ _ from ?_)
       (try (rename d = 0 => hd0; subst hd0))
       (try (rename Bool => tb; have ht1 := seal_true (b := tb) (by assumption) (by assumption); subst ht1))
       (try have htj : s.st = 2 := by omega)
       (try have hti : 2 ≤ s.st := by omega)
       (try have hti : ¬ 2 ≤ s.st := by omega)
       (try simp only [Int.sub_zero] at *)
       simp only [*, mineA, theirsA, calledA, echoedA, crumbA, numT, numS, drawT, not_true, not_false_eq_true, and_true, true_and, and_false, false_and, or_true, true_or, or_false, false_or, ne_eq, reduceCtorEq, Int.reduceEq, Int.reduceSub, if_pos, if_neg] at e
       (repeat (first | rw [if_pos (by assumption)] at e | rw [if_neg (by assumption)] at e | rw [if_pos (by omega)] at e | rw [if_neg (by omega)] at e | (rw [if_pos (show (sealF _ _).2 = 0 by assumption)] at e)))
       subst e
       repeat' (first | exact rfl | exact cells1 rfl rfl rfl rfl | exact cells0 | omega | apply And.intro))
    | exact ⟨c, rfl, hcB, hcv⟩
    | exact ⟨_, rfl, hv⟩
    | exact ⟨_, rfl, sm_nil⟩
    | exact ⟨_, rfl, sm_hel _ _⟩
    | exact ⟨_, rfl, hth.2.2.2.2.2.2⟩
    | exact ⟨_, rfl, sm_four⟩
    | exact ⟨_, _, rfl, hcv⟩
    | exact ⟨_, _, rfl, by have := hc.2.2; omega, hcB⟩
    | exact ⟨(openF s.key c.v).1, _, _, rfl, by omega, hw, by omega⟩
    | exact ⟨_, ⟨_, _, _, _, _, _, _, _⟩, rfl, cru_ok hw (by first | exact hs.mt | exact okU1 | exact hd) hth.1 (by first | exact hs.ms | exact okU_sub hd | exact okUm) hth.2.2.2.2.1 hth.2.1 (by first | exact hs.mt | exact okU0) (by first | exact hs.pt | exact okU0)⟩
    | exact ⟨_, _, rfl, hel_ok8 (by first | exact hs.mt | exact okU1 | exact hd) hs.win (by first | exact hs.ms | exact okU_sub hd | exact okUm) (by first | exact (seal_ok _ _).1 | simp [okB]) (by first | exact (seal_ok _ _).2 | simp)⟩
    | omega
    | apply And.intro
    | intro _)
set_option maxRecDepth 100000 in
theorem ok123 : FnIs Try.prog 123 (recvRC asO outO) := by
  refine fnIs (C := (ctrsJ Try.prog l1 iA3 5)) (by kernel_rfl) (cokJ (by kernel_rfl) l1_ok iA3_ok) Try.func123 (code := code123) (by kernel_rfl) (by kernel_rfl) ?_
  rintro a ⟨s, t, c, w, d, rfl, hs, hc, hw, hd⟩
  exact ⟨anns [] [25, 28], kcast (vc123 s t c w d hs hc hw hd) (by kernel_rfl)⟩

end Go.ZR
