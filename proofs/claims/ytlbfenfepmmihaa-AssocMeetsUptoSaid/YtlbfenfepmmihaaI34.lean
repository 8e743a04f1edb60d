/- Part 34 of what the closing text rests on. -/
import Derived.Test.YtlbfenfepmmihaaI10
import Derived.Test.YtlbfenfepmmihaaI32
import Derived.Test.YtlbfenfepmmihaaI33
import Derived.Test.YtlbfenfepmmihaaRows
namespace Go.ZR
open Go.Proofs
open Go.Z Go.ZM Go.RowKit
set_option maxRecDepth 100000
theorem u32_ok (z : Int) : okU (IntKind.u32.wrap z) := by rw [IntKind.wrap_u32]; unfold okU; omega
theorem xor_u {d : Int} (h : okU d) : bits BinOp.xor IntKind.u32 IntKind.u32.max d = 4294967295 - d := xor_max h
theorem xor_ok {d : Int} (h : okU d) : okU (bits BinOp.xor IntKind.u32 IntKind.u32.max d) := by rw [xor_u h]; exact okU_sub h
theorem openP_0 (A : PrR) : saidF (PrR.mk (openA A.a (lot A) (4294967295 - lot A) A.now).1 A.b A.v A.w A.now (nxt A.draw) A.u A.t) 0 (openA A.a (lot A) (4294967295 - lot A) A.now).2.1 = openP A 0 := rfl
theorem openP_1 (A : PrR) : saidF (PrR.mk A.a (openA A.b (lot A) (4294967295 - lot A) A.now).1 A.v A.w A.now (nxt A.draw) A.u A.t) 1 (openA A.b (lot A) (4294967295 - lot A) A.now).2.1 = openP A 1 := rfl
theorem out_read (o : OutR) : OutR.mk (ltrsOf (D.recs 4 o.pk.length (ltrCell o.pk))) o.ev = o := by rw [ltrsOf_ltrs]
theorem w01 : IntKind.i64.wrap ((0 : Int) + 1) = 1 := by decide
theorem anew_ok {p : PrR} (h : okPr 120 120 p) : okPr 120 120 (anewF p) := (h.start 0).start 1
theorem openP_ok {p : PrR} {n : Nat} (h : okPr n n p) (hn : n ≤ 1000) (s : Int) : okPr (n + 1) (n + 1) (openP p s) :=
  (h.drawn.hear s (Go.ZM.open_ok (h.side s) (drF_ok _) (okU_sub (drF_ok _)) (okNow_of h.now (by omega))) (one_open _ _ _ _)).mono (by omega) (by omega)
theorem met_fin {p : PrR} (h : Go.ZM.Rest p) : (!false && decide (p.a.st = (3 : Int)) && decide (p.b.st = (3 : Int)) && decide (p.a.mt = p.b.pt) && decide (p.a.pt = p.b.mt) && decide (p.a.ms = p.b.ps) && decide (p.b.ms = p.a.ps)) = true := by
  have m := h.met
  rw [m.ra, m.rb, m.ma, m.pa, m.sa, m.ta]
  simp
theorem mod3 {x : Int} (h0 : 0 ≤ x) (_h1 : x ≤ 255) : (decide (x.tmod 3 = 2) || decide (IntKind.i64.wrap (x.tmod 3) = 0)) = false → (decide (x.tmod 3 = 2) || decide (IntKind.i64.wrap (x.tmod 3) = IntKind.i64.wrap (0 + 1))) = false → False := by
  rw [Int.tmod_eq_emod_of_nonneg h0, wrap_i64_id (by omega) (by omega), w01]
  simp only [Bool.or_eq_false_iff, decide_eq_false_iff_not]
  omega
noncomputable def iPc27 : Code := match Try.f27.body with | some c => c | none => .skip
noncomputable def iP_27 : InlF := ⟨iPc27, Try.f27.ntmps, Try.f27.results.toList, anns []⟩
noncomputable def iPc28 : Code := match Try.f28.body with | some c => c | none => .skip
noncomputable def iP_28 : InlF := ⟨iPc28, Try.f28.ntmps, Try.f28.results.toList, anns []⟩
noncomputable def iP : List (Nat × InlF) := [(27, iP_27), (28, iP_28)]
theorem iP_ok : InlsOk Try.prog iP := ⟨inlOk Try.func27 (by kernel_rfl) (by kernel_rfl), inlOk Try.func28 (by kernel_rfl) (by kernel_rfl), trivial⟩
noncomputable def code8 : Code := match Try.f8.body with | some c => c | none => .skip
@[reducible] noncomputable def q8_0 (x0 : PrR) : List LtrR := ltrsOf (D.recs 4 x0.w.length (ltrCell x0.w))
@[reducible] noncomputable def q8_1 (x0 : PrR) : List LtrR := ltrsOf (D.recs 4 x0.v.length (ltrCell x0.v))
@[reducible] noncomputable def q8_2 (x0 : PrR) : Int := IntKind.u32.wrap (x0.draw + (1 : Int))
@[reducible] noncomputable def q8_3 (x0 : PrR) : Int := IntKind.u32.wrap (q8_2 x0 * (2654435769 : Int))
@[reducible] noncomputable def q8_4 (x0 : PrR) : Int := IntKind.u32.wrap (q8_2 x0 + (1 : Int))
@[reducible] noncomputable def q8_5 (x0 : PrR) : Int := IntKind.u32.wrap (q8_4 x0 + (1 : Int))
@[reducible] noncomputable def q8_6 (x0 : PrR) : Int := bits BinOp.xor IntKind.u32 IntKind.u32.max (IntKind.u32.wrap (q8_5 x0 * (2654435769 : Int)))
@[reducible] noncomputable def q8_7 (x0 : AsR × OutR × Int) : List LtrR := ltrsOf (D.recs 4 x0.snd.fst.pk.length (ltrCell x0.snd.fst.pk))
@[reducible] noncomputable def q8_8 : Int := IntKind.i64.wrap ((0 : Int) + (1 : Int))
@[reducible] noncomputable def q8_9 (x0 : PrR) (x1 : List LtrR) (x2 : List LtrR) : PrR := calmF (Int.toNat (30 : Int)) (PrR.mk x0.a x0.b x1 x2 x0.now x0.draw x0.u x0.t)
@[reducible] noncomputable def q8_10 : List O := [iO .i64 (200 : Int), iO .i64 (12 : Int), iO .i64 (8 : Int)]
@[reducible] noncomputable def q8_11 (x0 : Int) (x1 : Int) (x2 : Int) (x3 : Int) : List O := [iO .u64 x0, iO .i64 x1, iO .i64 x2, iO .i64 x3]
@[reducible] def q8_12 : Prop := (0 : Int) ≤ (0 : Int) ∧ (0 : Int) < (↑(2 : Nat) : Int)
@[reducible] def q8_13 : Prop := (0 : Int) ≤ (1 : Int) ∧ (1 : Int) < (↑(2 : Nat) : Int)
@[reducible] def q8_14 : Prop := (3 : Int) ≠ (0 : Int)
@[reducible] noncomputable def q8_15 (x0 : Int) : Bool := decide (x0.tmod (3 : Int) = (2 : Int))
@[reducible] def q8_16 (x0 : Int) : Prop := sw (!q8_15 x0) (SV.c (Value.int IntKind.u8 x0) = SV.c (Value.int IntKind.u8 x0)) True
@[reducible] def q8_17 (x0 : Int) : Prop := [!q8_15 x0] = [!q8_15 x0]
@[reducible] def q8_18 (x0 : Int) : Prop := sw (!q8_15 x0) (q8_17 x0 ∧ q8_14 ∧ SV.c (Value.int IntKind.u8 (x0.tmod (3 : Int))) = SV.c (Value.int IntKind.u8 (x0.tmod (3 : Int)))) True
@[reducible] noncomputable def q8_19 (x0 : Int) : Int := IntKind.i64.wrap (x0.tmod (3 : Int))
@[reducible] def q8_20 (x0 : Int) : Prop := sw (!q8_15 x0) (q8_17 x0 ∧ SV.c (Value.int IntKind.i64 (q8_19 x0)) = SV.c (Value.int IntKind.i64 (q8_19 x0))) True
@[reducible] noncomputable def q8_21 (x0 : Int) : SV := SV.c (Value.bool (decide (q8_19 x0 = (0 : Int))))
@[reducible] noncomputable def q8_22 : List O := [O.own 142 (D.recs 4 noOut.pk.length (ltrCell noOut.pk)), O.own 3 (D.ints IntKind.i64 noOut.ev)]
@[reducible] noncomputable def q8_23 (x0 : AsR) : O := O.ptr 148 (iO .u64 x0.key :: iO .u32 x0.win :: iO .i64 x0.life :: iO .i64 x0.rto :: iO .i64 x0.tries :: iO .u32 x0.ltag :: iO .u8 x0.lch.t :: iO .u8 x0.lch.f :: O.d (D.ints IntKind.u8 x0.lch.v) :: iO .i64 x0.at_ :: iO .i64 x0.left :: O.d (D.v (Value.bool x0.set)) :: iO .i64 x0.st :: iO .u32 x0.mt :: iO .u32 x0.ms :: iO .u32 x0.pt :: iO .u32 x0.ps :: q8_22)
@[reducible] noncomputable def q8_24 (x0 : PrR) : O := iO .i64 x0.now
@[reducible] noncomputable def q8_25 (x0 : PrR) : List O := [iO .u32 (IntKind.u32.wrap (q8_5 x0 * (2654435769 : Int))), iO .u32 (q8_6 x0), q8_24 x0]
@[reducible] def q8_26 (x0 : AsR) (x1 : PrR) : Prop := ∃ (s : AsR), ∃ (t : Int), ∃ (n : Int), ∃ (w : Int), q8_23 x0 :: q8_25 x1 = [q8_23 s, iO .u32 t, iO .u32 n, iO .i64 w] ∧
  okAs s ∧ okU t ∧ okU n ∧ okNow w
@[reducible] noncomputable def q8_27 (x0 : AsR) : O := O.ptr 152 [iO .u64 x0.key, iO .u32 x0.win, iO .i64 x0.life, iO .i64 x0.rto, iO .i64 x0.tries, iO .i64 x0.st, iO .u32 x0.mt, iO .u32 x0.pt, iO .u32 x0.ms, iO .u32 x0.ps, iO .u32 x0.ltag, iO .u8 x0.lch.t, iO .u8 x0.lch.f, O.d (D.ints IntKind.u8 x0.lch.v), O.d (D.v (Value.bool x0.set)), iO .i64 x0.at_, iO .i64 x0.left, O.any, O.any]
@[reducible] def q8_28 (x0 : AsR) (x1 : PrR) : Prop := ∃ (s : AsR), ∃ (t : Int), ∃ (n : Int), ∃ (w : Int), q8_27 x0 :: q8_25 x1 = [q8_27 s, iO .u32 t, iO .u32 n, iO .i64 w] ∧
  okAs s ∧ okU t ∧ okU n ∧ okNow w
@[reducible] noncomputable def q8_29 (x0 : AsR × OutR × Int) : Bool := !decide (x0.snd.snd = (0 : Int))
@[reducible] def q8_30 : Prop := false = true ∧ true = true
@[reducible] noncomputable def q8_31 (x0 : AsR × OutR × Int) : O := O.ptr 152 [iO .u64 x0.fst.key, iO .u32 x0.fst.win, iO .i64 x0.fst.life, iO .i64 x0.fst.rto, iO .i64 x0.fst.tries, iO .i64 x0.fst.st, iO .u32 x0.fst.mt, iO .u32 x0.fst.pt, iO .u32 x0.fst.ms, iO .u32 x0.fst.ps, iO .u32 x0.fst.ltag, iO .u8 x0.fst.lch.t, iO .u8 x0.fst.lch.f, O.d (D.ints IntKind.u8 x0.fst.lch.v), O.d (D.v (Value.bool x0.fst.set)), iO .i64 x0.fst.at_, iO .i64 x0.fst.left, O.any, O.any]
@[reducible] noncomputable def q8_32 (x0 : AsR × OutR × Int) : O := O.ptr 148 (iO .u64 x0.fst.key :: iO .u32 x0.fst.win :: iO .i64 x0.fst.life :: iO .i64 x0.fst.rto :: iO .i64 x0.fst.tries :: iO .u32 x0.fst.ltag :: iO .u8 x0.fst.lch.t :: iO .u8 x0.fst.lch.f :: O.d (D.ints IntKind.u8 x0.fst.lch.v) :: iO .i64 x0.fst.at_ :: iO .i64 x0.fst.left :: O.d (D.v (Value.bool x0.fst.set)) :: iO .i64 x0.fst.st :: iO .u32 x0.fst.mt :: iO .u32 x0.fst.ms :: iO .u32 x0.fst.pt :: iO .u32 x0.fst.ps :: q8_22)
@[reducible] noncomputable def q8_33 (x0 : PrR) : O := O.own 150 (D.recs 4 x0.v.length (ltrCell x0.v))
@[reducible] noncomputable def q8_34 (x0 : PrR) : O := O.own 150 (D.recs 4 x0.w.length (ltrCell x0.w))
@[reducible] noncomputable def q8_35 (x0 : PrR) : List O := [O.d (D.v (Value.bool false)), O.d (D.v (Value.bool x0.u)), O.d (D.v (Value.bool x0.t))]
@[reducible] noncomputable def q8_36 (x0 : PrR) : List O := q8_33 x0 :: q8_34 x0 :: q8_24 x0 :: iO .u32 (q8_5 x0) :: q8_35 x0
@[reducible] noncomputable def q8_37 (x0 : AsR × OutR × Int) : O := O.agg [O.d (D.recs 4 x0.snd.fst.pk.length (ltrCell x0.snd.fst.pk)), O.d (D.ints IntKind.i64 x0.snd.fst.ev)]
@[reducible] noncomputable def q8_38 (x0 : PrR) : O := O.ptr 152 [iO .u64 x0.a.key, iO .u32 x0.a.win, iO .i64 x0.a.life, iO .i64 x0.a.rto, iO .i64 x0.a.tries, iO .i64 x0.a.st, iO .u32 x0.a.mt, iO .u32 x0.a.pt, iO .u32 x0.a.ms, iO .u32 x0.a.ps, iO .u32 x0.a.ltag, iO .u8 x0.a.lch.t, iO .u8 x0.a.lch.f, O.d (D.ints IntKind.u8 x0.a.lch.v), O.d (D.v (Value.bool x0.a.set)), iO .i64 x0.a.at_, iO .i64 x0.a.left, O.any, O.any]
@[reducible] noncomputable def q8_39 (x0 : PrR) : O := O.ptr 152 [iO .u64 x0.b.key, iO .u32 x0.b.win, iO .i64 x0.b.life, iO .i64 x0.b.rto, iO .i64 x0.b.tries, iO .i64 x0.b.st, iO .u32 x0.b.mt, iO .u32 x0.b.pt, iO .u32 x0.b.ms, iO .u32 x0.b.ps, iO .u32 x0.b.ltag, iO .u8 x0.b.lch.t, iO .u8 x0.b.lch.f, O.d (D.ints IntKind.u8 x0.b.lch.v), O.d (D.v (Value.bool x0.b.set)), iO .i64 x0.b.at_, iO .i64 x0.b.left, O.any, O.any]
@[reducible] noncomputable def q8_40 (x0 : PrR) : O := O.ptr 148 (iO .u64 x0.a.key :: iO .u32 x0.a.win :: iO .i64 x0.a.life :: iO .i64 x0.a.rto :: iO .i64 x0.a.tries :: iO .u32 x0.a.ltag :: iO .u8 x0.a.lch.t :: iO .u8 x0.a.lch.f :: O.d (D.ints IntKind.u8 x0.a.lch.v) :: iO .i64 x0.a.at_ :: iO .i64 x0.a.left :: O.d (D.v (Value.bool x0.a.set)) :: iO .i64 x0.a.st :: iO .u32 x0.a.mt :: iO .u32 x0.a.ms :: iO .u32 x0.a.pt :: iO .u32 x0.a.ps :: q8_22)
@[reducible] noncomputable def q8_41 (x0 : PrR) : O := O.ptr 148 (iO .u64 x0.b.key :: iO .u32 x0.b.win :: iO .i64 x0.b.life :: iO .i64 x0.b.rto :: iO .i64 x0.b.tries :: iO .u32 x0.b.ltag :: iO .u8 x0.b.lch.t :: iO .u8 x0.b.lch.f :: O.d (D.ints IntKind.u8 x0.b.lch.v) :: iO .i64 x0.b.at_ :: iO .i64 x0.b.left :: O.d (D.v (Value.bool x0.b.set)) :: iO .i64 x0.b.st :: iO .u32 x0.b.mt :: iO .u32 x0.b.ms :: iO .u32 x0.b.pt :: iO .u32 x0.b.ps :: q8_22)
@[reducible] noncomputable def q8_42 (x0 : OutR) : O := O.agg [O.d (D.recs 4 x0.pk.length (ltrCell x0.pk)), O.d (D.ints IntKind.i64 x0.ev)]
@[reducible] noncomputable def q8_43 (x0 : PrR) (x1 : D) (x2 : D) (x3 : Int) (x4 : OutR) : List O := [O.ptr 59 (q8_38 x0 :: q8_39 x0 :: q8_40 x0 :: q8_41 x0 :: O.own 150 x1 :: O.own 150 x2 :: q8_24 x0 :: iO .u32 x0.draw :: q8_35 x0), iO .i64 x3, q8_42 x4, q8_42 x4]
@[reducible] def q8_44 (x0 : Int) (x1 : D) (x2 : PrR) (x3 : D) (x4 : OutR) : Prop := (x0 = (0 : Int) ∨ x0 = (1 : Int)) ∧ asLt x1 x2.v ∧ asLt x3 x2.w ∧ okP (2000 : Nat) x2 ∧
  okO x4
@[reducible] def q8_45 (x0 : AsR × OutR × Int) (x1 : AsR) (x2 : PrR) : Prop := ∃ (p : PrR), ∃ (s : Int), ∃ (o : OutR), ∃ (A : D), ∃ (B : D), [O.ptr 59 (q8_31 x0 :: q8_27 x1 :: q8_32 x0 :: q8_23 x1 :: q8_36 x2), iO .i64 (0 : Int), q8_37 x0, q8_37 x0] = q8_43 p A B s o ∧
  q8_44 s A p B o
@[reducible] def q8_46 (x0 : Int) : Prop := sw (!q8_15 x0) (SV.c (Value.int IntKind.i64 q8_8) = SV.c (Value.int IntKind.i64 q8_8)) True
@[reducible] noncomputable def q8_47 (x0 : Int) : Bool := decide (q8_19 x0 = q8_8)
@[reducible] def q8_48 (x0 : Int) : Prop := sw (!q8_15 x0) (q8_17 x0 ∧ q8_17 x0 ∧ True ∧ SV.c (Value.bool (q8_47 x0)) = SV.c (Value.bool (q8_47 x0))) True
@[reducible] noncomputable def q8_49 (x0 : Int) : Bool := q8_15 x0 || q8_47 x0
@[reducible] def q8_50 : Prop := (0 : Int) ≤ q8_8 ∧ q8_8 < (↑(2 : Nat) : Int)
@[reducible] noncomputable def q8_51 (x0 : PrR) : List O := [iO .u32 (q8_3 x0), iO .u32 (bits BinOp.xor IntKind.u32 IntKind.u32.max (q8_3 x0)), q8_24 x0]
@[reducible] def q8_52 (x0 : PrR) : Prop := ∃ (s : AsR), ∃ (t : Int), ∃ (n : Int), ∃ (w : Int), q8_41 x0 :: q8_51 x0 = [q8_23 s, iO .u32 t, iO .u32 n, iO .i64 w] ∧
  okAs s ∧ okU t ∧ okU n ∧ okNow w
@[reducible] def q8_53 (x0 : PrR) : Prop := ∃ (s : AsR), ∃ (t : Int), ∃ (n : Int), ∃ (w : Int), q8_39 x0 :: q8_51 x0 = [q8_27 s, iO .u32 t, iO .u32 n, iO .i64 w] ∧
  okAs s ∧ okU t ∧ okU n ∧ okNow w
@[reducible] noncomputable def q8_54 (x0 : PrR) : O := O.ptr 59 (q8_38 x0 :: q8_39 x0 :: q8_40 x0 :: q8_41 x0 :: q8_33 x0 :: q8_34 x0 :: q8_24 x0 :: iO .u32 x0.draw :: q8_35 x0)
@[reducible] def q8_55 (x0 : PrR) : Prop := ∃ (p : PrR), ∃ (n : Nat), [q8_54 x0, iO .i64 (30 : Int)] = [q8_54 p, iO .i64 (↑n : Int)] ∧
  n ≤ (30 : Nat) ∧ okP (500 : Nat) p
@[reducible] noncomputable def q8_56 : List D := [D.recs 4 noOut.pk.length (ltrCell noOut.pk), D.ints IntKind.i64 noOut.ev]
@[reducible] noncomputable def q8_57 (x0 : PrR) : List D := D.v (Value.int IntKind.u64 x0.a.key) :: D.v (Value.int IntKind.u32 x0.a.win) :: D.v (Value.int IntKind.i64 x0.a.life) :: D.v (Value.int IntKind.i64 x0.a.rto) :: D.v (Value.int IntKind.i64 x0.a.tries) :: D.v (Value.int IntKind.u32 x0.a.ltag) :: D.v (Value.int IntKind.u8 x0.a.lch.t) :: D.v (Value.int IntKind.u8 x0.a.lch.f) :: D.ints IntKind.u8 x0.a.lch.v :: D.v (Value.int IntKind.i64 x0.a.at_) :: D.v (Value.int IntKind.i64 x0.a.left) :: D.v (Value.bool x0.a.set) :: D.v (Value.int IntKind.i64 x0.a.st) :: D.v (Value.int IntKind.u32 x0.a.mt) :: D.v (Value.int IntKind.u32 x0.a.ms) :: D.v (Value.int IntKind.u32 x0.a.pt) :: D.v (Value.int IntKind.u32 x0.a.ps) :: q8_56
@[reducible] noncomputable def q8_58 (x0 : AsR) : List O := [O.d (D.ptr 148 (19 : Nat) fun (i : Nat) => [D.v (Value.int IntKind.u64 x0.key), D.v (Value.int IntKind.u32 x0.win), D.v (Value.int IntKind.i64 x0.life), D.v (Value.int IntKind.i64 x0.rto), D.v (Value.int IntKind.i64 x0.tries), D.v (Value.int IntKind.u32 x0.ltag), D.v (Value.int IntKind.u8 x0.lch.t), D.v (Value.int IntKind.u8 x0.lch.f), D.ints IntKind.u8 x0.lch.v, D.v (Value.int IntKind.i64 x0.at_), D.v (Value.int IntKind.i64 x0.left), D.v (Value.bool x0.set), D.v (Value.int IntKind.i64 x0.st), D.v (Value.int IntKind.u32 x0.mt), D.v (Value.int IntKind.u32 x0.ms), D.v (Value.int IntKind.u32 x0.pt), D.v (Value.int IntKind.u32 x0.ps), D.recs 4 (0 : Nat) (ltrCell []), D.ints IntKind.i64 []].getD i (D.v undef))]
@[reducible] def q8_59 (x0 : PrR) : Prop := ∃ (s : AsR), [O.d (D.ptr 148 (q8_57 x0).length fun (i : Nat) => (q8_57 x0).getD i (D.v undef))] = q8_58 s
@[reducible] noncomputable def q8_60 (x0 : PrR) : List D := D.v (Value.int IntKind.u64 x0.b.key) :: D.v (Value.int IntKind.u32 x0.b.win) :: D.v (Value.int IntKind.i64 x0.b.life) :: D.v (Value.int IntKind.i64 x0.b.rto) :: D.v (Value.int IntKind.i64 x0.b.tries) :: D.v (Value.int IntKind.u32 x0.b.ltag) :: D.v (Value.int IntKind.u8 x0.b.lch.t) :: D.v (Value.int IntKind.u8 x0.b.lch.f) :: D.ints IntKind.u8 x0.b.lch.v :: D.v (Value.int IntKind.i64 x0.b.at_) :: D.v (Value.int IntKind.i64 x0.b.left) :: D.v (Value.bool x0.b.set) :: D.v (Value.int IntKind.i64 x0.b.st) :: D.v (Value.int IntKind.u32 x0.b.mt) :: D.v (Value.int IntKind.u32 x0.b.ms) :: D.v (Value.int IntKind.u32 x0.b.pt) :: D.v (Value.int IntKind.u32 x0.b.ps) :: q8_56
@[reducible] def q8_61 (x0 : PrR) : Prop := ∃ (s : AsR), [O.d (D.ptr 148 (q8_60 x0).length fun (i : Nat) => (q8_60 x0).getD i (D.v undef))] = q8_58 s
@[reducible] def q8_62 : Prop := [true] = [true]
@[reducible] def q8_63 (x0 : PrR) : Prop := q8_62 ∧ q8_59 x0 ∧ SV.c (Value.int IntKind.i64 x0.a.st) = SV.c (Value.int IntKind.i64 x0.a.st)
@[reducible] noncomputable def q8_64 (x0 : PrR) : SV := SV.c (Value.bool (decide (x0.a.st = (3 : Int))))
@[reducible] noncomputable def q8_65 (x0 : PrR) : Bool := true && decide (x0.a.st = (3 : Int))
@[reducible] noncomputable def q8_66 (x0 : PrR) : SV := SV.c (Value.bool (decide (x0.b.st = (3 : Int))))
@[reducible] noncomputable def q8_67 (x0 : PrR) : Bool := q8_65 x0 && decide (x0.b.st = (3 : Int))
@[reducible] noncomputable def q8_68 (x0 : PrR) : SV := SV.c (Value.bool (decide (x0.a.mt = x0.b.pt)))
@[reducible] noncomputable def q8_69 (x0 : PrR) : Bool := q8_67 x0 && decide (x0.a.mt = x0.b.pt)
@[reducible] noncomputable def q8_70 (x0 : PrR) : SV := SV.c (Value.bool (decide (x0.a.pt = x0.b.mt)))
@[reducible] noncomputable def q8_71 (x0 : PrR) : Bool := q8_69 x0 && decide (x0.a.pt = x0.b.mt)
@[reducible] noncomputable def q8_72 (x0 : PrR) : SV := SV.c (Value.bool (decide (x0.a.ms = x0.b.ps)))
@[reducible] noncomputable def q8_73 (x0 : PrR) : Bool := q8_71 x0 && decide (x0.a.ms = x0.b.ps)
@[reducible] noncomputable def q8_74 (x0 : PrR) : SV := SV.c (Value.bool (decide (x0.b.ms = x0.a.ps)))
@[reducible] def q8_75 (x0 : PrR) : Prop := sw (q8_65 x0) ([q8_65 x0] = [q8_65 x0] ∧ q8_61 x0 ∧ SV.c (Value.int IntKind.i64 x0.b.st) = SV.c (Value.int IntKind.i64 x0.b.st)) True ∧
  sw (q8_65 x0) ([q8_65 x0] = [q8_65 x0] ∧ True ∧ q8_66 x0 = q8_66 x0) True ∧ [q8_65 x0] = [q8_65 x0] ∧ sw (q8_67 x0) (SV.c (Value.int IntKind.u32 x0.a.mt) = SV.c (Value.int IntKind.u32 x0.a.mt)) True ∧
  sw (q8_67 x0) (SV.c (Value.int IntKind.u32 x0.b.pt) = SV.c (Value.int IntKind.u32 x0.b.pt)) True ∧ sw (q8_67 x0) ([q8_67 x0] = [q8_67 x0] ∧ [q8_67 x0] = [q8_67 x0] ∧
  True ∧ q8_68 x0 = q8_68 x0) True ∧ [q8_67 x0] = [q8_67 x0] ∧ sw (q8_69 x0) (SV.c (Value.int IntKind.u32 x0.a.pt) = SV.c (Value.int IntKind.u32 x0.a.pt)) True ∧
  sw (q8_69 x0) (SV.c (Value.int IntKind.u32 x0.b.mt) = SV.c (Value.int IntKind.u32 x0.b.mt)) True ∧ sw (q8_69 x0) ([q8_69 x0] = [q8_69 x0] ∧ [q8_69 x0] = [q8_69 x0] ∧
  True ∧ q8_70 x0 = q8_70 x0) True ∧ [q8_69 x0] = [q8_69 x0] ∧ sw (q8_71 x0) (SV.c (Value.int IntKind.u32 x0.a.ms) = SV.c (Value.int IntKind.u32 x0.a.ms)) True ∧
  sw (q8_71 x0) (SV.c (Value.int IntKind.u32 x0.b.ps) = SV.c (Value.int IntKind.u32 x0.b.ps)) True ∧ sw (q8_71 x0) ([q8_71 x0] = [q8_71 x0] ∧ [q8_71 x0] = [q8_71 x0] ∧
  True ∧ q8_72 x0 = q8_72 x0) True ∧ [q8_71 x0] = [q8_71 x0] ∧ sw (q8_73 x0) (SV.c (Value.int IntKind.u32 x0.b.ms) = SV.c (Value.int IntKind.u32 x0.b.ms)) True ∧
  sw (q8_73 x0) (SV.c (Value.int IntKind.u32 x0.a.ps) = SV.c (Value.int IntKind.u32 x0.a.ps)) True ∧ sw (q8_73 x0) ([q8_73 x0] = [q8_73 x0] ∧ [q8_73 x0] = [q8_73 x0] ∧
  True ∧ q8_74 x0 = q8_74 x0) True ∧ [q8_73 x0] = [q8_73 x0] ∧ (q8_73 x0 && decide (x0.b.ms = x0.a.ps)) = true ∧ true = true
@[reducible] def q8_76 (x0 : AsR × OutR × Int) (x1 : PrR) (x2 : PrR) (x3 : PrR) : Prop := (True ∧ sw (q8_29 x0) q8_30 ((∃ (p : PrR), ∃ (s : Int), ∃ (o : OutR), ∃ (A : D), ∃ (B : D), [O.ptr 59 (q8_38 x1 :: q8_31 x0 :: q8_40 x1 :: q8_32 x0 :: q8_33 x1 :: q8_34 x1 :: q8_24 x1 :: iO .u32 (q8_2 x1) :: q8_35 x1), iO .i64 q8_8, q8_37 x0, q8_37 x0] = q8_43 p A B s o ∧
  q8_44 s A p B o) ∧ True ∧ True ∧ q8_55 x2 ∧ q8_12 ∧ q8_13 ∧ q8_59 x3 ∧ q8_61 x3 ∧ q8_59 x3 ∧ q8_61 x3 ∧ SV.p (83 : Nat) (0 : Nat) = SV.p (83 : Nat) (0 : Nat) ∧
  q8_63 x3 ∧ (q8_62 ∧ True ∧ q8_64 x3 = q8_64 x3) ∧ q8_62 ∧ sw (q8_65 x3) (SV.p (87 : Nat) (0 : Nat) = SV.p (87 : Nat) (0 : Nat)) True ∧ q8_75 x3)) ∧ True
@[reducible] def q8_77 (x0 : PrR) (x1 : AsR × OutR × Int) (x2 : PrR) (x3 : PrR) : Prop := q8_53 x0 ∧ q8_76 x1 x0 x2 x3 ∧ True
@[reducible] def q8_78 (x0 : PrR) (x1 : AsR × OutR × Int) (x2 : PrR) (x3 : PrR) : Prop := ((q8_53 x0 ∧ q8_76 x1 x0 x2 x3) ∧ True) ∧ True
@[reducible] def q8_79 (x0 : PrR) (x1 : PrR) : Prop := True ∧ True ∧ q8_55 x0 ∧ q8_12 ∧ q8_13 ∧ q8_59 x1 ∧ q8_61 x1 ∧ q8_59 x1 ∧ q8_61 x1 ∧ SV.p (59 : Nat) (0 : Nat) = SV.p (59 : Nat) (0 : Nat) ∧
  q8_63 x1 ∧ (q8_62 ∧ True ∧ q8_64 x1 = q8_64 x1) ∧ q8_62 ∧ sw (q8_65 x1) (SV.p (63 : Nat) (0 : Nat) = SV.p (63 : Nat) (0 : Nat)) True ∧ q8_75 x1
@[reducible] def q8_80 (x0 : AsR × OutR × Int) (x1 : AsR) (x2 : PrR) (x3 : PrR) (x4 : PrR) : Prop := (True ∧ sw (q8_29 x0) q8_30 ((∃ (p : PrR), ∃ (s : Int), ∃ (o : OutR), ∃ (A : D), ∃ (B : D), [O.ptr 59 (q8_27 x1 :: q8_31 x0 :: q8_23 x1 :: q8_32 x0 :: q8_36 x2), iO .i64 q8_8, q8_37 x0, q8_37 x0] = q8_43 p A B s o ∧
  q8_44 s A p B o) ∧ q8_79 x3 x4)) ∧ True
set_option maxHeartbeats 4000000 in
theorem vc8 : ∀ (l : List MvR), have y := mvsOf (D.recs 3 l.length (mvCell l)); have y_1 := grownF y (min (120 : Nat) y.length); have y_2 := q8_0 y_1; have y_3 := q8_1 y_1;
  have y_4 := newG (IntKind.u64.wrap (IntKind.u64.wrap (q8_3 y_1) * (2 : Int) ^ min (Int.toNat (32 : Int)) IntKind.u64.bits)) (200 : Int) (12 : Int) (8 : Int);
  have y_5 := newG (IntKind.u64.wrap (IntKind.u64.wrap (IntKind.u32.wrap (q8_4 y_1 * (2654435769 : Int))) * (2 : Int) ^ min (Int.toNat (32 : Int)) IntKind.u64.bits)) (200 : Int) (12 : Int) (8 : Int);
  have y_6 := calmF (Int.toNat (30 : Int)) (PrR.mk y_4 y_5 y_3 y_2 y_1.now (q8_4 y_1) y_1.u y_1.t); have y_7 := openA y_5 (IntKind.u32.wrap (q8_5 y_1 * (2654435769 : Int))) (q8_6 y_1) y_1.now;
  have y_8 := q8_7 y_7; have y_9 := saidF (PrR.mk y_4 y_7.fst y_3 y_2 y_1.now (q8_5 y_1) y_1.u y_1.t) q8_8 (OutR.mk y_8 y_7.snd.fst.ev); have y_10 := q8_1 y_9;
  have y_11 := q8_0 y_9; have y_12 := q8_9 y_9 y_10 y_11; have y_13 := openA y_4 (IntKind.u32.wrap (q8_5 y_1 * (2654435769 : Int))) (q8_6 y_1) y_1.now; have y_14 := q8_7 y_13;
  have y_15 := saidF (PrR.mk y_13.fst y_5 y_3 y_2 y_1.now (q8_5 y_1) y_1.u y_1.t) (0 : Int) (OutR.mk y_14 y_13.snd.fst.ev); have y_16 := q8_1 y_15; have y_17 := q8_0 y_15;
  have y_18 := q8_9 y_15 y_16 y_17; have y_19 := openA y_15.b (q8_3 y_15) (bits BinOp.xor IntKind.u32 IntKind.u32.max (q8_3 y_15)) y_15.now; have y_20 := q8_7 y_19;
  have y_21 := saidF (PrR.mk y_15.a y_19.fst y_16 y_17 y_15.now (q8_2 y_15) y_15.u y_15.t) q8_8 (OutR.mk y_20 y_19.snd.fst.ev); have y_22 := q8_0 y_21; have y_23 := q8_1 y_21;
  have y_24 := q8_9 y_21 y_23 y_22; ∀ (x : Int), l.length ≤ (1073741824 : Nat) → (0 : Int) ≤ x → x ≤ (255 : Int) → (∃ (l_1 : List MvR), [O.d (D.recs 3 l.length (mvCell l))] = [O.d (D.recs 3 l_1.length (mvCell l_1))] ∧
  l_1.length ≤ (1073741824 : Nat)) ∧ ([] : List O) = [] ∧ (True ∧ True ∧ (0 : Int) ≤ (32 : Int) ∧ ((∃ (k : Int), ∃ (l_1 : Int), ∃ (r : Int), ∃ (t : Int), iO .u64 (IntKind.u64.wrap (IntKind.u64.wrap (q8_3 y_1) * (2 : Int) ^ min (Int.toNat (32 : Int)) IntKind.u64.bits)) :: q8_10 = q8_11 k l_1 r t ∧
  ((1 : Int) ≤ l_1 ∧ l_1 ≤ (1048576 : Int)) ∧ ((1 : Int) ≤ r ∧ r ≤ (1048576 : Int)) ∧ (0 : Int) ≤ t ∧ t ≤ (100 : Int)) ∧ q8_12 ∧ (q8_12 ∧ ((True ∧ True ∧
  (0 : Int) ≤ (32 : Int) ∧ ((∃ (k : Int), ∃ (l_1 : Int), ∃ (r : Int), ∃ (t : Int), iO .u64 (IntKind.u64.wrap (IntKind.u64.wrap (IntKind.u32.wrap (q8_4 y_1 * (2654435769 : Int))) * (2 : Int) ^ min (Int.toNat (32 : Int)) IntKind.u64.bits)) :: q8_10 = q8_11 k l_1 r t ∧
  ((1 : Int) ≤ l_1 ∧ l_1 ≤ (1048576 : Int)) ∧ ((1 : Int) ≤ r ∧ r ≤ (1048576 : Int)) ∧ (0 : Int) ≤ t ∧ t ≤ (100 : Int)) ∧ q8_13 ∧ (q8_13 ∧ (True ∧ q8_14 ∧
  True ∧ q8_16 x ∧ q8_18 x ∧ q8_20 x ∧ sw (!q8_15 x) (SV.c (Value.int IntKind.i64 (0 : Int)) = SV.c (Value.int IntKind.i64 (0 : Int))) True ∧ sw (!q8_15 x) (q8_17 x ∧
  q8_17 x ∧ True ∧ q8_21 x = q8_21 x) True ∧ q8_17 x ∧ sw (q8_15 x || decide (q8_19 x = (0 : Int))) (True ∧ True ∧ q8_12 ∧ (q8_26 y_4 y_1 ∧ ((q8_12 ∧ (q8_28 y_4 y_1 ∧
  ((True ∧ sw (q8_29 y_13) q8_30 (q8_45 y_13 y_5 y_1 ∧ True ∧ True ∧ q8_14 ∧ True ∧ q8_16 x ∧ q8_18 x ∧ q8_20 x ∧ q8_46 x ∧ q8_48 x ∧ q8_17 x ∧ sw (q8_49 x) (True ∧
  True ∧ q8_50 ∧ (q8_52 y_15 ∧ ((q8_50 ∧ q8_77 y_15 y_19 y_21 y_24 ∧ q8_78 y_15 y_19 y_21 y_24) ∧ True) ∧ True) ∧ ((q8_52 y_15 ∧ (q8_50 ∧ q8_77 y_15 y_19 y_21 y_24 ∧
  q8_78 y_15 y_19 y_21 y_24) ∧ True) ∧ True) ∧ True) (q8_79 y_15 y_18))) ∧ True) ∧ True) ∧ ((q8_28 y_4 y_1 ∧ (True ∧ sw (q8_29 y_13) q8_30 (q8_45 y_13 y_5 y_1 ∧
  True ∧ True ∧ q8_14 ∧ True ∧ q8_16 x ∧ q8_18 x ∧ q8_20 x ∧ q8_46 x ∧ q8_48 x ∧ q8_17 x ∧ sw (q8_49 x) (True ∧ True ∧ q8_50 ∧ (q8_52 y_15 ∧ ((q8_50 ∧ q8_77 y_15 y_19 y_21 y_24 ∧
  q8_78 y_15 y_19 y_21 y_24) ∧ True) ∧ True) ∧ ((q8_52 y_15 ∧ (q8_50 ∧ q8_77 y_15 y_19 y_21 y_24 ∧ q8_78 y_15 y_19 y_21 y_24) ∧ True) ∧ True) ∧ True) (q8_79 y_15 y_18))) ∧
  True) ∧ True) ∧ True) ∧ True) ∧ True) ∧ ((q8_26 y_4 y_1 ∧ (q8_12 ∧ (q8_28 y_4 y_1 ∧ ((True ∧ sw (q8_29 y_13) q8_30 (q8_45 y_13 y_5 y_1 ∧ True ∧ True ∧ q8_14 ∧
  True ∧ q8_16 x ∧ q8_18 x ∧ q8_20 x ∧ q8_46 x ∧ q8_48 x ∧ q8_17 x ∧ sw (q8_49 x) (True ∧ True ∧ q8_50 ∧ (q8_52 y_15 ∧ ((q8_50 ∧ q8_77 y_15 y_19 y_21 y_24 ∧
  q8_78 y_15 y_19 y_21 y_24) ∧ True) ∧ True) ∧ ((q8_52 y_15 ∧ (q8_50 ∧ q8_77 y_15 y_19 y_21 y_24 ∧ q8_78 y_15 y_19 y_21 y_24) ∧ True) ∧ True) ∧ True) (q8_79 y_15 y_18))) ∧
  True) ∧ True) ∧ ((q8_28 y_4 y_1 ∧ (True ∧ sw (q8_29 y_13) q8_30 (q8_45 y_13 y_5 y_1 ∧ True ∧ True ∧ q8_14 ∧ True ∧ q8_16 x ∧ q8_18 x ∧ q8_20 x ∧ q8_46 x ∧
  q8_48 x ∧ q8_17 x ∧ sw (q8_49 x) (True ∧ True ∧ q8_50 ∧ (q8_52 y_15 ∧ ((q8_50 ∧ q8_77 y_15 y_19 y_21 y_24 ∧ q8_78 y_15 y_19 y_21 y_24) ∧ True) ∧ True) ∧
  ((q8_52 y_15 ∧ (q8_50 ∧ q8_77 y_15 y_19 y_21 y_24 ∧ q8_78 y_15 y_19 y_21 y_24) ∧ True) ∧ True) ∧ True) (q8_79 y_15 y_18))) ∧ True) ∧ True) ∧ True) ∧ True) ∧
  True) ∧ True) (True ∧ True ∧ q8_14 ∧ True ∧ q8_16 x ∧ q8_18 x ∧ q8_20 x ∧ q8_46 x ∧ q8_48 x ∧ q8_17 x ∧ sw (q8_49 x) (True ∧ True ∧ q8_50 ∧ (q8_26 y_5 y_1 ∧
  ((q8_50 ∧ (q8_28 y_5 y_1 ∧ q8_80 y_7 y_4 y_1 y_9 y_12 ∧ True) ∧ ((q8_28 y_5 y_1 ∧ q8_80 y_7 y_4 y_1 y_9 y_12) ∧ True) ∧ True) ∧ True) ∧ True) ∧ ((q8_26 y_5 y_1 ∧
  (q8_50 ∧ (q8_28 y_5 y_1 ∧ q8_80 y_7 y_4 y_1 y_9 y_12 ∧ True) ∧ ((q8_28 y_5 y_1 ∧ q8_80 y_7 y_4 y_1 y_9 y_12) ∧ True) ∧ True) ∧ True) ∧ True) ∧ True) (True ∧
  True ∧ (∃ (p : PrR), ∃ (n : Nat), [O.ptr 59 (q8_27 y_4 :: q8_27 y_5 :: q8_23 y_4 :: q8_23 y_5 :: q8_33 y_1 :: q8_34 y_1 :: q8_24 y_1 :: iO .u32 (q8_4 y_1) :: q8_35 y_1), iO .i64 (30 : Int)] = [q8_54 p, iO .i64 (↑n : Int)] ∧
  n ≤ (30 : Nat) ∧ okP (500 : Nat) p) ∧ q8_12 ∧ q8_13 ∧ q8_59 y_6 ∧ q8_61 y_6 ∧ q8_59 y_6 ∧ q8_61 y_6 ∧ SV.p (35 : Nat) (0 : Nat) = SV.p (35 : Nat) (0 : Nat) ∧
  q8_63 y_6 ∧ (q8_62 ∧ True ∧ q8_64 y_6 = q8_64 y_6) ∧ q8_62 ∧ sw (q8_65 y_6) (SV.p (39 : Nat) (0 : Nat) = SV.p (39 : Nat) (0 : Nat)) True ∧ q8_75 y_6))) ∧
  True) ∧ True) ∧ True) ∧ True) ∧ True) ∧ True) ∧ True) ∧ True := by
  delta q8_0 q8_1 q8_2 q8_3 q8_4 q8_5 q8_6 q8_7 q8_8 q8_9 q8_10 q8_11 q8_12 q8_13 q8_14 q8_15 q8_16 q8_17 q8_18 q8_19 q8_20 q8_21 q8_22 q8_23 q8_24
    q8_25 q8_26 q8_27 q8_28 q8_29 q8_30 q8_31 q8_32 q8_33 q8_34 q8_35 q8_36 q8_37 q8_38 q8_39 q8_40 q8_41 q8_42 q8_43 q8_44 q8_45 q8_46 q8_47 q8_48
    q8_49 q8_50 q8_51 q8_52 q8_53 q8_54 q8_55 q8_56 q8_57 q8_58 q8_59 q8_60 q8_61 q8_62 q8_63 q8_64 q8_65 q8_66 q8_67 q8_68 q8_69 q8_70 q8_71 q8_72
    q8_73 q8_74 q8_75 q8_76 q8_77 q8_78 q8_79 q8_80 iO
  intro l y y_1 y_2 y_3 y_4 y_5 y_6 y_7 y_8 y_9 y_10 y_11 y_12 y_13 y_14 y_15 y_16 y_17 y_18 y_19 y_20 y_21 y_22 y_23 y_24 x hl h0 h1
  have e : y = l := mvsOf_mvs l
  have e1 : y_1 = grownF l (min 120 l.length) := by
    show grownF y (min 120 y.length) = _
    rw [e]
  have hk : okPr 120 120 y_1 := by rw [e1]; exact (grown_ok l _ (by omega)).mono (by omega) (by omega)
  have M0 := meets_law l (min 120 l.length) (by omega) (q := 0) (.inl rfl)
  have M1 := meets_law l (min 120 l.length) (by omega) (q := 1) (.inr (.inl rfl))
  have M2 := meets_law l (min 120 l.length) (by omega) (q := 2) (.inr (.inr rfl))
  rw [← e1] at M0 M1 M2
  have c2 : y_2 = y_1.w := ltrsOf_ltrs _
  have c3 : y_3 = y_1.v := ltrsOf_ltrs _
  have hA : okPr 120 120 (anewF y_1) := anew_ok hk
  have c4 : y_4 = (anewF y_1).a := by
    show newG (IntKind.u64.wrap (IntKind.u64.wrap (IntKind.u32.wrap (IntKind.u32.wrap (y_1.draw + 1) * 2654435769)) * 2 ^ min (Int.toNat 32) IntKind.u64.bits)) 200 12 8 = newA (lot y_1)
    rw [wrap_nxt, wrap_dr, wrap_key9 (drF_ok _)]; rfl
  have c5 : y_5 = (anewF y_1).b := by
    show newG (IntKind.u64.wrap (IntKind.u64.wrap (IntKind.u32.wrap (IntKind.u32.wrap (IntKind.u32.wrap (y_1.draw + 1) + 1) * 2654435769)) * 2 ^ min (Int.toNat 32) IntKind.u64.bits)) 200 12 8 = newA (lot (startF y_1 0))
    rw [wrap_nxt, wrap_nxt, wrap_dr, wrap_key9 (drF_ok _)]; rfl
  have a1 : (anewF y_1).v = y_1.v := rfl
  have a2 : (anewF y_1).w = y_1.w := rfl
  have a3 : (anewF y_1).now = y_1.now := rfl
  have a4 : (anewF y_1).draw = nxt (nxt y_1.draw) := rfl
  have a5 : (anewF y_1).u = y_1.u := rfl
  have a6 : (anewF y_1).t = y_1.t := rfl
  have hm : ∀ (A : PrR) (q : Int), (q = 0 → askF (askF A q 0) q 1 = openP A 0) ∧ (q = 1 → askF A q 0 = A ∧ askF (askF A q 0) q 1 = openP A 1) ∧ (q = 2 → askF A q 0 = openP A 0 ∧ askF (askF A q 0) q 1 = openP (openP A 0) 1) := by
    intro A q
    refine ⟨?_, ?_, ?_⟩
    · rintro rfl; rfl
    · rintro rfl; exact ⟨rfl, rfl⟩
    · rintro rfl; exact ⟨rfl, rfl⟩
  unfold meetF at M0 M1 M2
  rw [(hm _ 0).1 rfl] at M0
  rw [((hm _ 1).2.1 rfl).2, ((hm _ 1).2.1 rfl).1] at M1
  rw [((hm _ 2).2.2 rfl).2, ((hm _ 2).2.2 rfl).1] at M2
  obtain ⟨R0, E0, -⟩ := M0
  obtain ⟨R1, -, E1⟩ := M1
  obtain ⟨R2, -, E2⟩ := M2
  have E0 := E0 (.inr rfl)
  have E1 := E1 (.inr rfl)
  have E2 := E2 (.inl rfl)
  generalize anewF y_1 = A at *
  have c7 : y_7 = openA A.b (lot A) (4294967295 - lot A) A.now := by
    show openA y_5 (IntKind.u32.wrap (IntKind.u32.wrap (IntKind.u32.wrap (IntKind.u32.wrap (y_1.draw + 1) + 1) + 1) * 2654435769)) (bits BinOp.xor IntKind.u32 IntKind.u32.max (IntKind.u32.wrap (IntKind.u32.wrap (IntKind.u32.wrap (IntKind.u32.wrap (y_1.draw + 1) + 1) + 1) * 2654435769))) y_1.now = _
    rw [xor_u (u32_ok _), wrap_nxt, wrap_nxt, wrap_nxt, wrap_dr, c5, ← a4, ← a3]; rfl
  have c13 : y_13 = openA A.a (lot A) (4294967295 - lot A) A.now := by
    show openA y_4 (IntKind.u32.wrap (IntKind.u32.wrap (IntKind.u32.wrap (IntKind.u32.wrap (y_1.draw + 1) + 1) + 1) * 2654435769)) (bits BinOp.xor IntKind.u32 IntKind.u32.max (IntKind.u32.wrap (IntKind.u32.wrap (IntKind.u32.wrap (IntKind.u32.wrap (y_1.draw + 1) + 1) + 1) * 2654435769))) y_1.now = _
    rw [xor_u (u32_ok _), wrap_nxt, wrap_nxt, wrap_nxt, wrap_dr, c4, ← a4, ← a3]; rfl
  have c9 : y_9 = openP A 1 := by
    have h : y_9 = saidF (PrR.mk y_4 y_7.1 y_3 y_2 y_1.now (IntKind.u32.wrap (IntKind.u32.wrap (IntKind.u32.wrap (y_1.draw + 1) + 1) + 1)) y_1.u y_1.t) (IntKind.i64.wrap (0 + 1)) y_7.2.1 := congrArg (saidF _ _) (out_read y_7.2.1)
    rw [h, wrap_nxt, wrap_nxt, wrap_nxt, w01, c2, c3, c4, c7, ← a1, ← a2, ← a3, ← a4, ← a5, ← a6]
    exact openP_1 A
  have c15 : y_15 = openP A 0 := by
    have h : y_15 = saidF (PrR.mk y_13.1 y_5 y_3 y_2 y_1.now (IntKind.u32.wrap (IntKind.u32.wrap (IntKind.u32.wrap (y_1.draw + 1) + 1) + 1)) y_1.u y_1.t) 0 y_13.2.1 := congrArg (saidF _ _) (out_read y_13.2.1)
    rw [h, wrap_nxt, wrap_nxt, wrap_nxt, c2, c3, c5, c13, ← a1, ← a2, ← a3, ← a4, ← a5, ← a6]
    exact openP_0 A
  have c19 : y_19 = openA y_15.b (lot y_15) (4294967295 - lot y_15) y_15.now := by
    show openA y_15.b (IntKind.u32.wrap (IntKind.u32.wrap (y_15.draw + 1) * 2654435769)) (bits BinOp.xor IntKind.u32 IntKind.u32.max (IntKind.u32.wrap (IntKind.u32.wrap (y_15.draw + 1) * 2654435769))) y_15.now = _
    rw [xor_u (u32_ok _), wrap_nxt, wrap_dr]; rfl
  have c21 : y_21 = openP y_15 1 := by
    have h : y_21 = saidF (PrR.mk y_15.a y_19.1 y_16 y_17 y_15.now (IntKind.u32.wrap (y_15.draw + 1)) y_15.u y_15.t) (IntKind.i64.wrap (0 + 1)) y_19.2.1 := congrArg (saidF _ _) (out_read y_19.2.1)
    have g1 : y_16 = y_15.v := ltrsOf_ltrs _
    have g2 : y_17 = y_15.w := ltrsOf_ltrs _
    rw [h, wrap_nxt, w01, g1, g2, c19]
    exact openP_1 y_15
  have c12 : y_12 = calmF 30 (openP A 1) := by rw [← c9]; exact congrArg (calmF 30) (pr_read y_9)
  have c18 : y_18 = calmF 30 (openP A 0) := by rw [← c15]; exact congrArg (calmF 30) (pr_read y_15)
  have c24 : y_24 = calmF 30 (openP (openP A 0) 1) := by
    rw [← c15, ← c21]; exact congrArg (calmF 30) (pr_read y_21)
  have k9 : okPr 121 121 y_9 := by rw [c9]; exact openP_ok hA (by omega) 1
  have k15 : okPr 121 121 y_15 := by rw [c15]; exact openP_ok hA (by omega) 0
  have k21 : okPr 122 122 y_21 := by rw [c21]; exact openP_ok k15 (by omega) 1
  have f12 := met_fin (p := y_12) (by rw [c12]; exact R1)
  have f18 := met_fin (p := y_18) (by rw [c18]; exact R0)
  have f24 := met_fin (p := y_24) (by rw [c24]; exact R2)
  have z7 : ¬ (!decide (y_7.snd.snd = 0)) = true := by
    have : y_7.snd.snd = 0 := by rw [c7]; exact E1
    rw [this]; decide
  have z13 : ¬ (!decide (y_13.snd.snd = 0)) = true := by
    have : y_13.snd.snd = 0 := by rw [c13]; exact E0
    rw [this]; decide
  have z19 : ¬ (!decide (y_19.snd.snd = 0)) = true := by
    have : y_19.snd.snd = 0 := by rw [c19, c15]; exact E2
    rw [this]; decide
  have kn : okNow y_1.now := okNow_of hk.now (by omega)
  have kn15 : okNow y_15.now := okNow_of k15.now (by omega)
  have k4 : okAs y_4 := by rw [c4]; exact hA.a
  have k5 : okAs y_5 := by rw [c5]; exact hA.b
  have o13 := open_mid (p := A) (hA.mono (by omega) (by omega)) 0 (drF_ok (nxt A.draw))
  have o7 := open_mid (p := A) (hA.mono (by omega) (by omega)) 1 (drF_ok (nxt A.draw))
  have o19 := open_mid (p := y_15) (k15.mono (by omega) (by omega)) 1 (drF_ok (nxt y_15.draw))
  have p13 : okO y_13.2.1 := by rw [c13]; exact o13.2
  have p7 : okO y_7.2.1 := by rw [c7]; exact o7.2
  have p19 : okO y_19.2.1 := by rw [c19]; exact o19.2
  have s13 : ∀ d, okU d → okP 2000 (PrR.mk y_13.1 y_5 y_1.v y_1.w y_1.now d y_1.u y_1.t) := fun d hd => by
    rw [c13, c5, ← a1, ← a2, ← a3, ← a5, ← a6]; exact ⟨o13.1.a, hA.b, o13.1.v, o13.1.w, o13.1.now, hd, o13.1.len⟩
  have s7 : ∀ d, okU d → okP 2000 (PrR.mk y_4 y_7.1 y_1.v y_1.w y_1.now d y_1.u y_1.t) := fun d hd => by
    rw [c7, c4, ← a1, ← a2, ← a3, ← a5, ← a6]; exact ⟨hA.a, o7.1.b, o7.1.v, o7.1.w, o7.1.now, hd, o7.1.len⟩
  have s19 : ∀ d, okU d → okP 2000 (PrR.mk y_15.a y_19.1 y_15.v y_15.w y_15.now d y_15.u y_15.t) := fun d hd => by
    rw [c19]; exact ⟨k15.a, o19.1.b, o19.1.v, o19.1.w, o19.1.now, hd, o19.1.len⟩
  have no := mod3 h0 h1
  clear_value y_24 y_23 y_22 y_21 y_20 y_19 y_18 y_17 y_16 y_15 y_14 y_13 y_12 y_11 y_10 y_9 y_8 y_7 y_6 y_5 y_4 y_3 y_2 y_1 y
  repeat' (first
    | exact trivial
    | exact rfl
    | exact f12 | exact f18 | exact f24
    | exact by decide
    | refine And.intro ?_ ?_
    | (refine sw_iff.2 ⟨fun h => absurd h z7, fun _ => ?_⟩)
    | (refine sw_iff.2 ⟨fun h => absurd h z13, fun _ => ?_⟩)
    | (refine sw_iff.2 ⟨fun h => absurd h z19, fun _ => ?_⟩)
    | (refine sw_iff.2 ⟨fun h => ?_, fun h => ?_⟩)
    | (exfalso; exact no (by assumption) (by assumption))
    | exact ⟨l, rfl, hl⟩
    | exact ⟨_, 200, 12, 8, rfl, by omega, by omega, by omega⟩
    | exact ⟨y_4, _, _, _, rfl, k4, u32_ok _, xor_ok (u32_ok _), kn⟩
    | exact ⟨y_5, _, _, _, rfl, k5, u32_ok _, xor_ok (u32_ok _), kn⟩
    | exact ⟨y_15.b, _, _, _, rfl, k15.b, u32_ok _, xor_ok (u32_ok _), kn15⟩
    | exact ⟨PrR.mk y_13.1 y_5 y_1.v y_1.w y_1.now _ y_1.u y_1.t, 0, y_13.2.1, _, _, rfl, .inl rfl, asLt_self _, asLt_self _, s13 _ (u32_ok _), p13⟩
    | exact ⟨PrR.mk y_4 y_7.1 y_1.v y_1.w y_1.now _ y_1.u y_1.t, _, y_7.2.1, _, _, rfl, .inr w01, asLt_self _, asLt_self _, s7 _ (u32_ok _), p7⟩
    | exact ⟨PrR.mk y_15.a y_19.1 y_15.v y_15.w y_15.now _ y_15.u y_15.t, _, y_19.2.1, _, _, rfl, .inr w01, asLt_self _, asLt_self _, s19 _ (u32_ok _), p19⟩
    | exact ⟨y_9, 30, rfl, by omega, k9.mono (by omega) (by omega)⟩
    | exact ⟨y_15, 30, rfl, by omega, k15.mono (by omega) (by omega)⟩
    | exact ⟨y_21, 30, rfl, by omega, k21.mono (by omega) (by omega)⟩
    | exact ⟨y_12.a, rfl⟩ | exact ⟨y_12.b, rfl⟩ | exact ⟨y_18.a, rfl⟩ | exact ⟨y_18.b, rfl⟩ | exact ⟨y_24.a, rfl⟩ | exact ⟨y_24.b, rfl⟩
    | omega)
set_option maxRecDepth 100000 in
theorem ok8 : FnIs Try.prog 8 meetsC := by
  refine fnIs (C := (ctrsJ Try.prog l13 iP 4)) (by kernel_rfl) (cokJ (by kernel_rfl) l13_ok iP_ok) Try.func8 (code := code8) (by kernel_rfl) (by kernel_rfl) ?_
  rintro a ⟨l, x, rfl, hl, h0, h1⟩
  exact ⟨anns [] [2] [(7, 3)], kcast (vc8 l x hl h0 h1) (by kernel_rfl)⟩

end Go.ZR

namespace Go.Z
open Go.ChangeShapes Go.WideShapes Go.ChangeAt Go.RowKit
open Go.Proofs.Ytlbfenfepmmihaa.Rows (uptoBulk uptoBulkAll)

inductive Sh where
  | int (k : IntKind)
  | bool
  | str
  | ints (k : IntKind)
  | recs (l : List Sh)

def flatFs (f : Nat → Option (List Sh)) (co : Nat → Nat) : List Field → Nat → Option (List Sh)
  | [], _ => some []
  | x :: l, o => cond (Nat.beq x.offset o) (match f x.type with
    | some a => cond (Nat.beq (co x.type) a.length) (match flatFs f co l (o + a.length) with
      | some b => some (a ++ b)
      | none => none) none
    | none => none) none

def flat (P : Program) : Nat → Nat → Option (List Sh)
  | 0, _ => none
  | n + 1, t => match P.underlying t with
    | some (.int k) => some [.int k]
    | some .bool => some [.bool]
    | some .string => some [.str]
    | some (.slice e) => match P.underlying e with
      | some (.int k) => cond (Nat.beq (P.cellsOf e) 1) (some [.ints k]) none
      | _ => match flat P n e with
        | some (s :: l) => cond (Nat.beq (P.cellsOf e) (l.length + 1)) (some [.recs (s :: l)]) none
        | _ => none
    | some (.struct fs) => match flatFs (flat P n) P.cellsOf fs.toList 0 with
      | some l => cond (Nat.beq (P.cellsOf t) l.length) (some l) none
      | none => none
    | _ => none

mutual
def fits (N : Nat) : Sh → D → Prop
  | .int k, d => ∃ n, d = .v (.int k n) ∧ k.min ≤ n ∧ n ≤ k.max
  | .bool, d => ∃ b, d = .v (.bool b)
  | .str, d => ∃ s : ByteArray, d = .v (.string s) ∧ s.size ≤ N
  | .ints k, d => ∃ xs, d = .ints k xs ∧ (∀ x, x ∈ xs → k.min ≤ x ∧ x ≤ k.max) ∧ xs.length ≤ N
  | .recs l, d => ∃ n f, d = .recs l.length n f ∧ n ≤ N ∧ ∀ i, i < n → fitsL N l (f i)
def fitsL (N : Nat) : List Sh → (Nat → D) → Prop
  | [], _ => True
  | s :: l, g => fits N s (g 0) ∧ fitsL N l fun j => g (j + 1)
end

theorem DL.append {X : Nat → Prop} {w : World} : ∀ {a b : List D} {u v : List Value}, DL.holds X w a u → DL.holds X w b v → DL.holds X w (a ++ b) (u ++ v)
  | [], _, [], _, _, hb => hb
  | [], _, _ :: _, _, ha, _ => ha.elim
  | _ :: _, _, [], _, ha, _ => ha.elim
  | _ :: _, _, _ :: _, _, ha, hb => ⟨ha.1, DL.append ha.2 hb⟩
theorem fitsL_append {N : Nat} : ∀ {l m : List Sh} {a b : List D}, a.length = l.length → fitsL N l (fun j => a.getD j (.v undef)) → fitsL N m (fun j => b.getD j (.v undef)) → fitsL N (l ++ m) (fun j => (a ++ b).getD j (.v undef))
  | [], m, [], b, _, _, hb => by simpa using hb
  | [], _, _ :: _, _, h, _, _ => by simp at h
  | _ :: _, _, [], _, h, _, _ => by simp at h
  | s :: l, m, x :: a, b, h, ha, hb => by
    simp only [List.cons_append, fitsL, List.getD_cons_zero, List.getD_cons_succ] at ha ⊢
    exact ⟨ha.1, fitsL_append (by simpa using h) ha.2 hb⟩

section
variable {H : Type} {enc : TypeId × Value → H} {P : Program} {w : World} {base : Nat} {held : Bool}

theorem bulk_pos (d : DataW H) : 1 ≤ uptoBulk d := by
  cases d with
  | lit l => cases l <;> simp [uptoBulk]
  | _ => simp [uptoBulk]
theorem bulk_mem : ∀ {l : List (DataW H)} {d : DataW H}, d ∈ l → uptoBulk d ≤ uptoBulkAll l
  | [], _, h => by cases h
  | x :: l, d, h => by
    simp only [uptoBulkAll]
    rcases List.mem_cons.1 h with rfl | h
    · omega
    · have := bulk_mem h; omega
theorem bulk_len : ∀ (l : List (DataW H)), l.length ≤ uptoBulkAll l
  | [] => by simp
  | x :: l => by
    have := bulk_len l
    have := bulk_pos x
    simp only [uptoBulkAll, List.length_cons]; omega

def Bnd (N : Nat) (d : DataW H) : Prop := uptoBulk d ≤ N ∨ maxLen ≤ N

theorem ints_trod {t e : TypeId} {k : IntKind} {fuel : Nat} {cs : List Value} {x : DataW H × List MemPlace} (ht : P.underlying t = some (.slice e)) (he : P.underlying e = some (.int k)) (hc : P.cellsOf e = 1)
    (hf : DataW.trod enc P w base (fun _ => true) held fuel t cs = some x) {N : Nat} (hb : Bnd N x.1) :
    ∃ v xs, cs = [v] ∧ (D.ints k xs).holds (fun _ => True) w v ∧ (∀ y, y ∈ xs → k.min ≤ y ∧ y ≤ k.max) ∧ xs.length ≤ N := by
  rcases open_ints ht he hc hf with ⟨rfl, _⟩ | ⟨a, len, cap, zs, rfl, _, hl, hm, hz, hx, hcell, hwz⟩
  · exact ⟨_, [], rfl, D.holds_ints.2 ⟨nilLoc, rfl, .inl rfl, fun h => absurd rfl h, rfl, Nat.le_refl _, fun i z hi => by simp at hi⟩, by simp, by simp⟩
  · simp at hz
    have hlen : (zs.take len).length = len := by simp; omega
    have hxs : ∀ y, y ∈ zs.take len → k.min ≤ y ∧ y ≤ k.max := fun y hy => by
      have := hwz y (List.mem_of_mem_take hy)
      simpa [Lit.wf] using this
    have hN : (zs.take len).length ≤ N := by
      rcases hb with hb | hb
      · rw [hx] at hb
        simp only [uptoBulk] at hb
        have := bulk_len (lits (H := H) k (zs.take len))
        have h2 : (lits (H := H) k (zs.take len)).length = (zs.take len).length := by simp [lits]
        omega
      · omega
    by_cases hcap : cap = 0
    · refine ⟨_, zs.take len, rfl, D.holds_ints.2 ⟨⟨some a, len, cap⟩, rfl, .inl hcap, fun hne => absurd hne (by show ¬ len ≠ 0; omega), hlen.symm, hl, fun i z hi => ?_⟩, hxs, hN⟩
      have := (List.getElem?_eq_some_iff.1 hi).1
      omega
    · have h0 := hcell 0 (by omega)
      have ha := spot_none h0
      have ha' : a = ⟨a.block, a.off, none⟩ := by simpa [Addr.add] using ha
      generalize hbb : a.block = b at *
      generalize ho : a.off = o at *
      subst ha'
      refine ⟨_, zs.take len, rfl, D.holds_ints.2 ⟨⟨some ⟨b, o, none⟩, len, cap⟩, rfl, .inr rfl, fun hne => ⟨trivial, lt_of_cell (b := b) (o := o) (by rw [add_spot] at h0; exact h0)⟩, hlen.symm, hl, fun i z hi => ?_⟩, hxs, hN⟩
      have hi1 := (List.getElem?_eq_some_iff.1 hi).1
      have hc := hcell i (by omega)
      rw [add_spot] at hc
      have : zs.getD i 0 = z := by
        rw [List.getElem?_take] at hi
        split at hi
        · simp [List.getD_eq_getElem?_getD, hi]
        · cases hi
      rw [this] at hc
      exact hc

def Opens (w : World) (N : Nat) (shs : List Sh) (cs : List Value) : Prop :=
  ∃ ds : List D, ds.length = shs.length ∧ fitsL N shs (fun j => ds.getD j (.v undef)) ∧ DL.holds (fun _ => True) w ds cs

theorem flds_open {fuel : Nat} {f : Nat → Option (List Sh)} {N : Nat} {cs : List Value}
    (ih : ∀ t c (x : DataW H × List MemPlace) shs, DataW.trod enc P w base (fun _ => true) held fuel t c = some x → f t = some shs → Bnd N x.1 → Opens w N shs c) :
    ∀ (l : List Field) (o : Nat) (shs : List Sh) (xs : List (DataW H × List MemPlace)), flatFs f P.cellsOf l o = some shs → xs.length = l.length →
      (∀ (i : Nat) (fl : Field), l[i]? = some fl → DataW.trod enc P w base (fun _ => true) held fuel fl.type ((cs.drop fl.offset).take (P.cellsOf fl.type)) = xs[i]?) → (∀ x, x ∈ xs → Bnd N x.1) →
      Opens w N shs ((cs.drop o).take shs.length)
  | [], o, shs, xs, hf, _, _, _ => by
    simp [flatFs] at hf; subst hf
    exact ⟨[], rfl, by simp [fitsL], by simp; trivial⟩
  | fl :: l, o, shs, [], _, hl, _, _ => by simp at hl
  | fl :: l, o, shs, x :: xs, hf, hl, hx, hb => by
    unfold flatFs at hf
    cases ho : Nat.beq fl.offset o with
    | false => rw [ho] at hf; cases hf
    | true =>
      rw [ho] at hf
      simp only [_root_.cond_true] at hf
      split at hf <;> try (cases hf; done)
      rename_i a ha
      cases hc : Nat.beq (P.cellsOf fl.type) a.length with
      | false => rw [hc] at hf; cases hf
      | true =>
        rw [hc] at hf
        simp only [_root_.cond_true] at hf
        split at hf <;> cases hf
        rename_i b hb'
        have ho := Nat.eq_of_beq_eq_true ho
        have hc := Nat.eq_of_beq_eq_true hc
        have h0 := hx 0 fl rfl
        rw [ho, hc] at h0
        obtain ⟨d1, a1, a2, a3⟩ := ih _ _ _ _ h0 ha (hb x (by simp))
        obtain ⟨d2, b1, b2, b3⟩ := flds_open ih l (o + a.length) b xs hb' (by simpa using hl) (fun i g hg => hx (i + 1) g (by simpa using hg)) (fun y hy => hb y (by simp [hy]))
        refine ⟨d1 ++ d2, by simp [a1, b1], fitsL_append a1 a2 b2, ?_⟩
        rw [List.length_append, List.take_add, List.drop_drop]
        exact DL.append a3 b3

theorem deep : ∀ (m : Nat) (t : TypeId) (fuel : Nat) (cs : List Value) (x : DataW H × List MemPlace) (shs : List Sh) (N : Nat),
    DataW.trod enc P w base (fun _ => true) held fuel t cs = some x → flat P m t = some shs → Bnd N x.1 → Opens w N shs cs
  | 0, _, _, _, _, _, _, _, hs, _ => by simp [flat] at hs
  | m + 1, t, fuel, cs, x, shs, N, hf, hs, hb => by
    unfold flat at hs
    split at hs
    · rename_i k ht
      cases hs
      obtain ⟨n, rfl, rfl, hw⟩ := DataW.trod_int ht hf
      exact ⟨[.v (.int k n)], rfl, by simp only [fitsL, fits, and_true]; exact ⟨n, rfl, by simpa [Lit.wf] using hw⟩, ⟨rfl, rfl⟩, trivial⟩
    · rename_i ht
      cases hs
      obtain ⟨b, rfl, rfl⟩ := DataW.trod_bool ht hf
      exact ⟨[.v (.bool b)], rfl, by simp only [fitsL, fits, and_true]; exact ⟨b, rfl⟩, ⟨rfl, rfl⟩, trivial⟩
    · rename_i ht
      cases hs
      obtain ⟨s, rfl, rfl, hm⟩ := DataW.trod_string ht hf
      refine ⟨[.v (.string s)], rfl, ?_, ⟨rfl, rfl⟩, trivial⟩
      simp only [fitsL, fits, and_true]
      refine ⟨s, rfl, ?_⟩
      rcases hb with hb | hb
      · simp only [uptoBulk] at hb
        have : s.data.toList.length = s.size := Array.length_toList
        omega
      · omega
    · rename_i e ht
      split at hs
      · rename_i k he
        cases hc : Nat.beq (P.cellsOf e) 1 with
        | false => rw [hc] at hs; cases hs
        | true =>
          rw [hc] at hs
          cases hs
          obtain ⟨v, xs, rfl, h1, h2, h3⟩ := ints_trod ht he (Nat.eq_of_beq_eq_true hc) hf hb
          exact ⟨[.ints k xs], rfl, by simp only [fitsL, fits, and_true]; exact ⟨xs, rfl, h2, h3⟩, h1, trivial⟩
      · split at hs
        · rename_i s l hfl
          cases hc : Nat.beq (P.cellsOf e) (l.length + 1) with
          | false => rw [hc] at hs; cases hs
          | true =>
            rw [hc] at hs
            cases hs
            have hc := Nat.eq_of_beq_eq_true hc
            rcases DataW.trod_slice ht hf with ⟨rfl, rfl⟩ | ⟨a, len, cap, elems, rest, n, rfl, rfl, rfl, hbs, hl, hm, hlen, hel, hsp, -⟩
            · refine ⟨[.recs (l.length + 1) 0 fun _ _ => .v undef], rfl, ?_, D.holds_recs.2 ⟨nilLoc, rfl, .inl rfl, fun h => absurd rfl h, rfl, Nat.le_refl _, fun i hi => by omega⟩, trivial⟩
              simp only [fitsL, fits, and_true]
              exact ⟨0, fun _ _ => .v undef, rfl, Nat.zero_le _, fun i hi => by omega⟩
            · have hN : len ≤ N := by
                rcases hb with hb | hb
                · simp only [uptoBulk] at hb
                  have := bulk_len (elems.map (·.1))
                  simp at this
                  omega
                · omega
              have each : ∀ i, i < len → ∃ c, w.cells? base (a.add (i * P.cellsOf e)) (P.cellsOf e) = some c ∧ Opens w N (s :: l) c := fun i hi => by
                have h1 := hel i hi
                have hy : elems[i]? = some elems[i] := List.getElem?_eq_getElem (by omega)
                rw [hy, Option.bind_eq_some_iff] at h1
                obtain ⟨c, h1, h2⟩ := h1
                refine ⟨c, h1, deep m e n c _ _ N h2 hfl ?_⟩
                rcases hb with hb | hb
                · left
                  simp only [uptoBulk] at hb
                  have : uptoBulk (elems[i]).1 ≤ uptoBulkAll (elems.map (·.1)) := bulk_mem (List.mem_map_of_mem (List.getElem_mem _))
                  omega
                · exact .inr hb
              have each' : ∀ i, ∃ ds : List D, i < len → fitsL N (s :: l) (fun j => ds.getD j (.v undef)) ∧ ∃ c, w.cells? base (a.add (i * P.cellsOf e)) (P.cellsOf e) = some c ∧ DL.holds (fun _ => True) w ds c ∧ ds.length = l.length + 1 := fun i => by
                by_cases hi : i < len
                · obtain ⟨c, h1, ds, h2, h3, h4⟩ := each i hi
                  exact ⟨ds, fun _ => ⟨h3, c, h1, h4, h2⟩⟩
                · exact ⟨[], fun h => absurd h hi⟩
              have hF' := fun i => Classical.choose_spec (each' i)
              generalize hFF : (fun i => Classical.choose (each' i)) = F
              have hF : ∀ i, i < len → fitsL N (s :: l) (fun j => (F i).getD j (.v undef)) ∧ ∃ c, w.cells? base (a.add (i * P.cellsOf e)) (P.cellsOf e) = some c ∧ DL.holds (fun _ => True) w (F i) c ∧ (F i).length = l.length + 1 := fun i => by rw [← hFF]; exact hF' i
              clear hF' hFF
              have first : cap ≠ 0 → ∃ c, w.cells? base (a.add (0 * P.cellsOf e)) (P.cellsOf e) = some c := fun hne => by
                by_cases h0 : len = 0
                · obtain ⟨r1, r2⟩ := hsp rfl
                  have h1 := r2 0 (by omega)
                  have hy : rest[0]? = some rest[0] := List.getElem?_eq_getElem (by omega)
                  rw [hy, Option.bind_eq_some_iff] at h1
                  obtain ⟨c, h1, _⟩ := h1
                  exact ⟨c, by rw [show 0 * P.cellsOf e = (len + 0) * P.cellsOf e by rw [h0]]; exact h1⟩
                · obtain ⟨_, c, h1, _⟩ := hF 0 (by omega)
                  exact ⟨c, h1⟩
              have spot : cap ≠ 0 → a = ⟨a.block, a.off, none⟩ ∧ a.block < w.heap.size := fun hne => by
                obtain ⟨c, h1⟩ := first hne
                obtain ⟨_, h4, h5⟩ := World.cells?_some h1
                have h6 := h5 0 (by omega)
                have hc0 : c[0]? = some c[0] := List.getElem?_eq_getElem (by omega)
                rw [hc0, Nat.zero_mul] at h6
                have h7 : w.cell? a = some c[0] := by simpa [Addr.add] using h6
                refine ⟨spot_none h7, ?_⟩
                rw [spot_none h7] at h7
                exact lt_of_cell h7
              refine ⟨[.recs (l.length + 1) len fun i j => (F i).getD j (.v undef)], rfl, ?_, ?_, trivial⟩
              · simp only [fitsL, fits, and_true]
                exact ⟨len, _, rfl, hN, fun i hi => by have := (hF i hi).1; simpa only [fitsL] using this⟩
              · by_cases h0 : cap = 0
                · exact D.holds_recs.2 ⟨⟨some a, len, cap⟩, rfl, .inl h0, fun h => absurd h (by show ¬ len ≠ 0; omega), rfl, hl, fun i hi => by omega⟩
                · obtain ⟨hs1, hs2⟩ := spot h0
                  generalize hbb : a.block = b at *
                  generalize hoo : a.off = o at *
                  subst hs1
                  refine D.holds_recs.2 ⟨⟨some ⟨b, o, none⟩, len, cap⟩, rfl, .inr rfl, fun _ => ⟨trivial, hs2⟩, rfl, hl, fun i hi j hj => ?_⟩
                  obtain ⟨_, c, h1, h2, h3⟩ := hF i hi
                  obtain ⟨c', e1, e2⟩ := DL.getD h2 j (by omega)
                  obtain ⟨_, h4, h5⟩ := World.cells?_some h1
                  refine ⟨c', ?_, e2⟩
                  have := h5 j (by omega)
                  rw [add_spot, add_spot, e1, hc] at this
                  rw [Nat.add_assoc] at this
                  exact this
        · cases hs
    · rename_i fs ht
      split at hs
      · rename_i l hfl
        cases hc : Nat.beq (P.cellsOf t) l.length with
        | false => rw [hc] at hs; cases hs
        | true =>
          rw [hc] at hs
          cases hs
          obtain ⟨xs, n, rfl, rfl, h1, h2, h3⟩ := DataW.trod_struct ht hf
          have := flds_open (cs := cs) (N := N) (fun t c x shs a1 a2 a3 => deep m t n c x shs N a1 a2 a3) fs.toList 0 _ xs hfl (by simpa using h2) (fun i fl hi => h3 i fl (by simpa using hi)) (fun y hy => by
            rcases hb with hb | hb
            · left
              simp only [uptoBulk] at hb
              have : uptoBulk y.1 ≤ uptoBulkAll (xs.map (·.1)) := bulk_mem (List.mem_map_of_mem hy)
              omega
            · exact .inr hb)
          rw [List.drop_zero, List.take_of_length_le (by rw [h1, Nat.eq_of_beq_eq_true hc]; exact Nat.le_refl _)] at this
          exact this
      · cases hs
    · cases hs
end
end Go.Z
