/- Part 23 of what the closing text rests on. -/
import Derived.Test.YtlbfenfepmmihaaI22
import Derived.Test.YtlbfenfepmmihaaRows
namespace Go.ZR
open Go.Proofs
open Go.Z Go.ZM Go.RowKit
set_option maxRecDepth 100000
theorem evs_ite {p : Prop} [Decidable p] {x y : AsR × OutR} (hx : evs x.2.ev) (hy : evs y.2.ev) : evs (if p then x else y).2.ev := by
  by_cases h : p
  · rw [if_pos h]; exact hx
  · rw [if_neg h]; exact hy
theorem evs_take {a : AsR} {x : CruR} {p : Prop} [Decidable p] : evs (takeA a x (if p then 1 else 2)).2.ev := by
  by_cases h : p
  · rw [if_pos h]; exact .inr (.inl rfl)
  · rw [if_neg h]; exact .inr (.inr (.inl rfl))
theorem evs_recv (a : AsR) (t : Int) (c : ChR) (w d : Int) : evs (recvA a t c w d).2.ev := by
  unfold recvA
  repeat' (first | exact .inl rfl | exact .inr (.inl rfl) | exact .inr (.inr (.inl rfl)) | exact .inr (.inr (.inr (.inl rfl))) | exact .inr (.inr (.inr (.inr rfl))) | exact evs_take | apply evs_ite | unfold calledA | unfold echoedA)
theorem evs_tick (a : AsR) (w : Int) : evs (tickA a w).2.ev := by
  unfold tickA
  repeat' (first | exact .inl rfl | exact .inr (.inr (.inr (.inl rfl))) | apply evs_ite)
theorem okO_recv {a : AsR} (h : okAs a) {t : Int} {c : ChR} (hc : okLt t c) {w : Int} (d : Int) (hw : okNow w) : okO (recvA a t c w d).2 := ⟨(recv_ok h hc hw).2, one_recv _ _ _ _ _, evs_recv _ _ _ _ _⟩
theorem del_mid {p : PrR} (hp : okP 1990 p) (s : Int) {k : Nat} (hk : k < (wayF p s).length) (d : Int) :
    okP 2000 (putS (putW (drawn p) s (without (wayF p s) k)) s (recvA (sideF p s) ((wayF p s).getD k noLtr).tag ((wayF p s).getD k noLtr).ch p.now d).1) ∧ okO (recvA (sideF p s) ((wayF p s).getD k noLtr).tag ((wayF p s).getD k noLtr).ch p.now d).2 := by
  have hw : okNow p.now := okNow_of hp.now (by omega)
  have h1 := without_len hk
  have hl : (without (wayF p s) k).length + 1990 ≤ (wayF (drawn p) s).length + 1990 := by
    show (without (wayF p s) k).length + 1990 ≤ (wayF p s).length + 1990
    omega
  have h2 : okPr 1990 1990 (putW (drawn p) s (without (wayF p s) k)) := (okPr.drawn hp).putW s (fun y hy => okPr.way hp s y (without_mem hy)) hl
  exact ⟨(h2.putS s (recv_ok (okPr.side hp s) (lt_getD (okPr.way hp s)) hw).1).mono (by omega) (by omega), okO_recv (okPr.side hp s) (lt_getD (okPr.way hp s)) d hw⟩
theorem wrap_nxt (d : Int) : IntKind.u32.wrap (d + 1) = nxt d := IntKind.wrap_u32 _
theorem wrap_dr (d : Int) : IntKind.u32.wrap (d * 2654435769) = drF d := IntKind.wrap_u32 _
def wayD (v : List LtrR) (k : Nat) : D := .recs 4 (0 + k + (v.length - (k + 1))) fun i j => bif i.blt (0 + k) then ltrCell v (i - 0) j else ltrCell v (k + 1 + (i - (0 + k))) j
theorem wayD_as (v : List LtrR) {k : Nat} (hk : k < v.length) : asLt (wayD v k) (without v k) := by
  have hl := without_len hk
  refine asLt_of (by omega) fun i hi j _ => ?_
  have e : (without v k).getD i noLtr = bif i.blt (0 + k) then v.getD (i - 0) noLtr else v.getD (k + 1 + (i - (0 + k))) noLtr := by
    unfold without
    cases h : i.blt (0 + k) with
    | true =>
      have h : i < k := by have := Nat.le_of_ble_eq_true h; omega
      show (v.take k ++ v.drop (k + 1)).getD i noLtr = v.getD i noLtr
      simp only [List.getD]
      rw [List.getElem?_append_left (by rw [List.length_take]; omega), List.getElem?_take_of_lt h]
    | false =>
      have h : ¬ i < k := by
        intro g
        have : i.blt (0 + k) = true := Nat.ble_eq_true_of_le (by omega)
        rw [this] at h; cases h
      show (v.take k ++ v.drop (k + 1)).getD i noLtr = v.getD (k + 1 + (i - (0 + k))) noLtr
      simp only [List.getD]
      rw [List.getElem?_append_right (by rw [List.length_take]; omega), List.getElem?_drop, List.length_take]
      congr 2
      omega
  show (bif i.blt (0 + k) then ltrCell v (i - 0) j else ltrCell v (k + 1 + (i - (0 + k))) j) = ltrCell (without v k) i j
  unfold ltrCell
  rw [e]
  cases i.blt (0 + k) <;> rfl
theorem pr_eta' (p : PrR) : PrR.mk p.a p.b p.v p.w p.now p.draw p.u p.t = p := rfl
theorem out_eta (o : OutR) : OutR.mk o.pk o.ev = o := rfl
noncomputable def iNc28 : Code := match Try.f28.body with | some c => c | none => .skip
noncomputable def iN_28 : InlF := ⟨iNc28, Try.f28.ntmps, Try.f28.results.toList, anns []⟩
noncomputable def iN : List (Nat × InlF) := [(28, iN_28)]
theorem iN_ok : InlsOk Try.prog iN := ⟨inlOk Try.func28 (by kernel_rfl) (by kernel_rfl), trivial⟩
noncomputable def code75 : Code := match Try.f75.body with | some c => c | none => .skip
@[reducible] noncomputable def q75a_0 (x0 : Nat) : Int := (↑x0 : Int)
@[reducible] noncomputable def q75a_1 (x0 : PrR) (x1 : Nat) : ChR := (x0.v.getD (q75a_0 x1).toNat noLtr).ch
@[reducible] noncomputable def q75a_3 : TypeInfo := Try.prog.types[150]
@[reducible] noncomputable def q75a_4 (x0 : Nat) (x1 : PrR) : D := D.recs q75a_3.size ((0 : Nat) + (q75a_0 x0).toNat + (x1.v.length - (IntKind.i64.wrap (q75a_0 x0 + (1 : Int))).toNat)) fun (i j : Nat) => bif i.blt ((0 : Nat) + (q75a_0 x0).toNat) then ltrCell x1.v (i - (0 : Nat)) j else ltrCell x1.v ((IntKind.i64.wrap (q75a_0 x0 + (1 : Int))).toNat + (i - ((0 : Nat) + (q75a_0 x0).toNat))) j
@[reducible] def q75a_5 : Prop := (0 : Int) ≤ (0 : Int) ∧ (0 : Int) < (↑(2 : Nat) : Int)
@[reducible] noncomputable def q75a_6 (x0 : PrR) : Int := (↑x0.v.length : Int)
@[reducible] noncomputable def q75a_7 (x0 : PrR) (x1 : Nat) : O := O.agg [iO .u8 (q75a_1 x0 x1).t, iO .u8 (q75a_1 x0 x1).f, O.d (D.ints IntKind.u8 (q75a_1 x0 x1).v)]
@[reducible] noncomputable def q75a_8 (x0 : ChR) : O := O.agg [iO .u8 x0.t, iO .u8 x0.f, O.d (D.ints IntKind.u8 x0.v)]
@[reducible] noncomputable def q75a_9 : List O := [O.own 142 (D.recs 4 (0 : Nat) (ltrCell noOut.pk)), O.own 3 (D.ints IntKind.i64 noOut.ev)]
@[reducible] noncomputable def q75a_10 (x0 : PrR) : O := O.ptr 148 (iO .u64 x0.a.key :: iO .u32 x0.a.win :: iO .i64 x0.a.life :: iO .i64 x0.a.rto :: iO .i64 x0.a.tries :: iO .u32 x0.a.ltag :: iO .u8 x0.a.lch.t :: iO .u8 x0.a.lch.f :: O.d (D.ints IntKind.u8 x0.a.lch.v) :: iO .i64 x0.a.at_ :: iO .i64 x0.a.left :: O.d (D.v (Value.bool x0.a.set)) :: iO .i64 x0.a.st :: iO .u32 x0.a.mt :: iO .u32 x0.a.ms :: iO .u32 x0.a.pt :: iO .u32 x0.a.ps :: q75a_9)
@[reducible] noncomputable def q75a_11 (x0 : PrR) (x1 : Nat) : List O := [iO .u32 (x0.v.getD (q75a_0 x1).toNat noLtr).tag, q75a_7 x0 x1, iO .i64 x0.now, iO .u32 (IntKind.u32.wrap (IntKind.u32.wrap (x0.draw + (1 : Int)) * (2654435769 : Int)))]
@[reducible] noncomputable def q75a_12 (x0 : PrR) : O := O.ptr 152 [iO .u64 x0.a.key, iO .u32 x0.a.win, iO .i64 x0.a.life, iO .i64 x0.a.rto, iO .i64 x0.a.tries, iO .i64 x0.a.st, iO .u32 x0.a.mt, iO .u32 x0.a.pt, iO .u32 x0.a.ms, iO .u32 x0.a.ps, iO .u32 x0.a.ltag, iO .u8 x0.a.lch.t, iO .u8 x0.a.lch.f, O.d (D.ints IntKind.u8 x0.a.lch.v), O.d (D.v (Value.bool x0.a.set)), iO .i64 x0.a.at_, iO .i64 x0.a.left, O.any, O.any]
@[reducible] noncomputable def q75a_13 (x0 : PrR) : O := O.ptr 152 [iO .u64 x0.b.key, iO .u32 x0.b.win, iO .i64 x0.b.life, iO .i64 x0.b.rto, iO .i64 x0.b.tries, iO .i64 x0.b.st, iO .u32 x0.b.mt, iO .u32 x0.b.pt, iO .u32 x0.b.ms, iO .u32 x0.b.ps, iO .u32 x0.b.ltag, iO .u8 x0.b.lch.t, iO .u8 x0.b.lch.f, O.d (D.ints IntKind.u8 x0.b.lch.v), O.d (D.v (Value.bool x0.b.set)), iO .i64 x0.b.at_, iO .i64 x0.b.left, O.any, O.any]
@[reducible] noncomputable def q75a_14 (x0 : PrR) : O := O.ptr 148 (iO .u64 x0.b.key :: iO .u32 x0.b.win :: iO .i64 x0.b.life :: iO .i64 x0.b.rto :: iO .i64 x0.b.tries :: iO .u32 x0.b.ltag :: iO .u8 x0.b.lch.t :: iO .u8 x0.b.lch.f :: O.d (D.ints IntKind.u8 x0.b.lch.v) :: iO .i64 x0.b.at_ :: iO .i64 x0.b.left :: O.d (D.v (Value.bool x0.b.set)) :: iO .i64 x0.b.st :: iO .u32 x0.b.mt :: iO .u32 x0.b.ms :: iO .u32 x0.b.pt :: iO .u32 x0.b.ps :: q75a_9)
@[reducible] noncomputable def q75a_15 (x0 : PrR) : List O := [O.d (D.v (Value.bool false)), O.d (D.v (Value.bool x0.u)), O.d (D.v (Value.bool x0.t))]
@[reducible] noncomputable def q75a_16 (x0 : AsR × OutR) : O := O.agg [O.d (D.recs 4 x0.snd.pk.length (ltrCell x0.snd.pk)), O.d (D.ints IntKind.i64 x0.snd.ev)]
@[reducible] noncomputable def q75a_17 (x0 : OutR) : O := O.agg [O.d (D.recs 4 x0.pk.length (ltrCell x0.pk)), O.d (D.ints IntKind.i64 x0.ev)]
@[reducible] def q75a_18 : Prop := (0 : Nat) = (0 : Nat) ∧ ∀ (i : Nat), i < (0 : Nat) → ∀ (j : Nat), j < (4 : Nat) → ltrCell noOut.pk i j = ltrCell noOut.pk i j
@[reducible] def q75a_19 (x0 : Nat) (x1 : PrR) (x2 : AsR × OutR) (x3 : PrR) (x4 : PrR) : Prop := ((0 : Int) ≤ q75a_0 x0 ∧ q75a_0 x0 ≤ q75a_6 x1) ∧ True ∧
  ((0 : Nat) + (q75a_0 x0).toNat) * q75a_3.bytes ≤ (140737488355328 : Nat) ∧ q75a_5 ∧ True ∧ ((0 : Int) ≤ IntKind.i64.wrap (q75a_0 x0 + (1 : Int)) ∧ IntKind.i64.wrap (q75a_0 x0 + (1 : Int)) ≤ q75a_6 x1) ∧
  (True ∧ ((0 : Nat) + (q75a_0 x0).toNat + (x1.v.length - (IntKind.i64.wrap (q75a_0 x0 + (1 : Int))).toNat)) * q75a_3.bytes ≤ (140737488355328 : Nat) ∧ q75a_5 ∧
  (True ∧ True ∧ q75a_5 ∧ q75a_5 ∧ ((∃ (c : ChR), [q75a_7 x1 x0] = [q75a_8 c] ∧ sm c.v.length) ∧ ((∃ (s : AsR), ∃ (t : Int), ∃ (c : ChR), ∃ (w : Int), ∃ (d : Int), q75a_10 x1 :: q75a_11 x1 x0 = [O.ptr 148 (iO .u64 s.key :: iO .u32 s.win :: iO .i64 s.life :: iO .i64 s.rto :: iO .i64 s.tries :: iO .u32 s.ltag :: iO .u8 s.lch.t :: iO .u8 s.lch.f :: O.d (D.ints IntKind.u8 s.lch.v) :: iO .i64 s.at_ :: iO .i64 s.left :: O.d (D.v (Value.bool s.set)) :: iO .i64 s.st :: iO .u32 s.mt :: iO .u32 s.ms :: iO .u32 s.pt :: iO .u32 s.ps :: q75a_9), iO .u32 t, q75a_8 c, iO .i64 w, iO .u32 d] ∧
  okAs s ∧ okLt t c ∧ okNow w ∧ okU d) ∧ ((∃ (s : AsR), ∃ (t : Int), ∃ (c : ChR), ∃ (w : Int), ∃ (d : Int), q75a_12 x1 :: q75a_11 x1 x0 = [O.ptr 152 [iO .u64 s.key, iO .u32 s.win, iO .i64 s.life, iO .i64 s.rto, iO .i64 s.tries, iO .i64 s.st, iO .u32 s.mt, iO .u32 s.pt, iO .u32 s.ms, iO .u32 s.ps, iO .u32 s.ltag, iO .u8 s.lch.t, iO .u8 s.lch.f, O.d (D.ints IntKind.u8 s.lch.v), O.d (D.v (Value.bool s.set)), iO .i64 s.at_, iO .i64 s.left, O.any, O.any], iO .u32 t, q75a_8 c, iO .i64 w, iO .u32 d] ∧
  okAs s ∧ okLt t c ∧ okNow w ∧ okU d) ∧ ((∃ (p_1 : PrR), ∃ (s : Int), ∃ (o : OutR), ∃ (A : D), ∃ (B : D), [O.ptr 59 (O.ptr 152 [iO .u64 x2.fst.key, iO .u32 x2.fst.win, iO .i64 x2.fst.life, iO .i64 x2.fst.rto, iO .i64 x2.fst.tries, iO .i64 x2.fst.st, iO .u32 x2.fst.mt, iO .u32 x2.fst.pt, iO .u32 x2.fst.ms, iO .u32 x2.fst.ps, iO .u32 x2.fst.ltag, iO .u8 x2.fst.lch.t, iO .u8 x2.fst.lch.f, O.d (D.ints IntKind.u8 x2.fst.lch.v), O.d (D.v (Value.bool x2.fst.set)), iO .i64 x2.fst.at_, iO .i64 x2.fst.left, O.any, O.any] :: q75a_13 x1 :: O.ptr 148 (iO .u64 x2.fst.key :: iO .u32 x2.fst.win :: iO .i64 x2.fst.life :: iO .i64 x2.fst.rto :: iO .i64 x2.fst.tries :: iO .u32 x2.fst.ltag :: iO .u8 x2.fst.lch.t :: iO .u8 x2.fst.lch.f :: O.d (D.ints IntKind.u8 x2.fst.lch.v) :: iO .i64 x2.fst.at_ :: iO .i64 x2.fst.left :: O.d (D.v (Value.bool x2.fst.set)) :: iO .i64 x2.fst.st :: iO .u32 x2.fst.mt :: iO .u32 x2.fst.ms :: iO .u32 x2.fst.pt :: iO .u32 x2.fst.ps :: q75a_9) :: q75a_14 x1 :: O.own 150 (q75a_4 x0 x1) :: O.own 150 (D.recs 4 x1.w.length (ltrCell x1.w)) :: iO .i64 x1.now :: iO .u32 (IntKind.u32.wrap (x1.draw + (1 : Int))) :: q75a_15 x1), iO .i64 (0 : Int), q75a_16 x2, q75a_16 x2] = [O.ptr 59 (q75a_12 p_1 :: q75a_13 p_1 :: q75a_10 p_1 :: q75a_14 p_1 :: O.own 150 A :: O.own 150 B :: iO .i64 p_1.now :: iO .u32 p_1.draw :: q75a_15 p_1), iO .i64 s, q75a_17 o, q75a_17 o] ∧
  (s = (0 : Int) ∨ s = (1 : Int)) ∧ asLt A p_1.v ∧ asLt B p_1.w ∧ okP (2000 : Nat) p_1 ∧ okO o) ∧ x3.a.key = x4.a.key ∧ x3.a.win = x4.a.win ∧ x3.a.life = x4.a.life ∧
  x3.a.rto = x4.a.rto ∧ x3.a.tries = x4.a.tries ∧ x3.a.st = x4.a.st ∧ x3.a.mt = x4.a.mt ∧ x3.a.pt = x4.a.pt ∧ x3.a.ms = x4.a.ms ∧ x3.a.ps = x4.a.ps ∧ x3.a.ltag = x4.a.ltag ∧
  x3.a.lch.t = x4.a.lch.t ∧ x3.a.lch.f = x4.a.lch.f ∧ x3.a.lch.v = x4.a.lch.v ∧ x3.a.set = x4.a.set ∧ x3.a.at_ = x4.a.at_ ∧ x3.a.left = x4.a.left ∧ x3.b.key = x4.b.key ∧
  x3.b.win = x4.b.win ∧ x3.b.life = x4.b.life ∧ x3.b.rto = x4.b.rto ∧ x3.b.tries = x4.b.tries ∧ x3.b.st = x4.b.st ∧ x3.b.mt = x4.b.mt ∧ x3.b.pt = x4.b.pt ∧
  x3.b.ms = x4.b.ms ∧ x3.b.ps = x4.b.ps ∧ x3.b.ltag = x4.b.ltag ∧ x3.b.lch.t = x4.b.lch.t ∧ x3.b.lch.f = x4.b.lch.f ∧ x3.b.lch.v = x4.b.lch.v ∧ x3.b.set = x4.b.set ∧
  x3.b.at_ = x4.b.at_ ∧ x3.b.left = x4.b.left ∧ x3.a.key = x4.a.key ∧ x3.a.win = x4.a.win ∧ x3.a.life = x4.a.life ∧ x3.a.rto = x4.a.rto ∧ x3.a.tries = x4.a.tries ∧
  x3.a.ltag = x4.a.ltag ∧ x3.a.lch.t = x4.a.lch.t ∧ x3.a.lch.f = x4.a.lch.f ∧ x3.a.lch.v = x4.a.lch.v ∧ x3.a.at_ = x4.a.at_ ∧ x3.a.left = x4.a.left ∧ x3.a.set = x4.a.set ∧
  x3.a.st = x4.a.st ∧ x3.a.mt = x4.a.mt ∧ x3.a.ms = x4.a.ms ∧ x3.a.pt = x4.a.pt ∧ x3.a.ps = x4.a.ps ∧ q75a_18 ∧ noOut.ev = noOut.ev ∧ x3.b.key = x4.b.key ∧
  x3.b.win = x4.b.win ∧ x3.b.life = x4.b.life ∧ x3.b.rto = x4.b.rto ∧ x3.b.tries = x4.b.tries ∧ x3.b.ltag = x4.b.ltag ∧ x3.b.lch.t = x4.b.lch.t ∧ x3.b.lch.f = x4.b.lch.f ∧
  x3.b.lch.v = x4.b.lch.v ∧ x3.b.at_ = x4.b.at_ ∧ x3.b.left = x4.b.left ∧ x3.b.set = x4.b.set ∧ x3.b.st = x4.b.st ∧ x3.b.mt = x4.b.mt ∧ x3.b.ms = x4.b.ms ∧
  x3.b.pt = x4.b.pt ∧ x3.b.ps = x4.b.ps ∧ q75a_18 ∧ noOut.ev = noOut.ev ∧ (x3.v.length = x4.v.length ∧ ∀ (i : Nat), i < x3.v.length → ∀ (j : Nat), j < (4 : Nat) →
  ltrCell x3.v i j = ltrCell x4.v i j) ∧ (x3.w.length = x4.w.length ∧ ∀ (i : Nat), i < x3.w.length → ∀ (j : Nat), j < (4 : Nat) → ltrCell x3.w i j = ltrCell x4.w i j) ∧
  x3.now = x4.now ∧ x3.draw = x4.draw ∧ false = false ∧ x3.u = x4.u ∧ x3.t = x4.t ∧ (true && true && true) = true) ∧
  True) ∧ True) ∧ True) ∧ True) ∧ True) ∧ True
set_option maxHeartbeats 4000000 in
theorem vc75a : ∀ (p : PrR), have y := ltrsOf (D.recs 4 p.w.length (ltrCell p.w)); have y_1 := ltrsOf (D.recs 4 p.v.length (ltrCell p.v));
  ∀ (k : Nat), have y_2 := delF (PrR.mk p.a p.b y_1 y p.now p.draw p.u p.t) (0 : Int) (q75a_0 k).toNat; have y_3 := recvA p.a (p.v.getD (q75a_0 k).toNat noLtr).tag (q75a_1 p k) p.now (IntKind.u32.wrap (IntKind.u32.wrap (p.draw + (1 : Int)) * (2654435769 : Int)));
  have y_4 := ltrsOf (D.recs 4 y_3.snd.pk.length (ltrCell y_3.snd.pk)); have y_5 := ltrsOf (q75a_4 k p); have y_6 := saidF (PrR.mk y_3.fst p.b y_5 y p.now (IntKind.u32.wrap (p.draw + (1 : Int))) p.u p.t) (0 : Int) (OutR.mk y_4 y_3.snd.ev);
  okP (1990 : Nat) p → k < p.v.length → q75a_5 ∧ ((0 : Int) ≤ q75a_0 k ∧ q75a_0 k < q75a_6 p) ∧ q75a_5 ∧ sw (decide (q75a_0 k = (0 : Int))) (True ∧ (0 : Nat) ≤ (140737488355328 : Nat) ∧
  q75a_5 ∧ True ∧ False ∨ q75a_19 k p y_3 y_6 y_2) (q75a_19 k p y_3 y_6 y_2) := by
  delta q75a_0 q75a_1 q75a_3 q75a_4 q75a_5 q75a_6 q75a_7 q75a_8 q75a_9 q75a_10 q75a_11 q75a_12 q75a_13 q75a_14 q75a_15 q75a_16 q75a_17 q75a_18 q75a_19
    iO
  simp only [size150, bytes150, ltrsOf_ltrs, pr_eta', out_eta, sw_iff, wrap_nxt, wrap_dr, Int.toNat_natCast]
  intro p k hp hk
  have hn := hp.len
  unfold lenP at hn
  have wk : IntKind.i64.wrap ((k : Int) + 1) = ((k + 1 : Nat) : Int) := wrap_succ (n := 1990) (by omega) (by omega)
  have hF : ltrsOf (wayD p.v k) = without p.v k := (wayD_as p.v hk).1
  unfold wayD at hF
  simp only [wk, Int.toNat_natCast, hF]
  have hx := lt_getD (k := k) hp.v
  have hsm : sm (p.v.getD k noLtr).ch.v.length := by have := hx.2.2; unfold sm; omega
  have hw : okNow p.now := okNow_of hp.now (by omega)
  obtain ⟨hm1, hm2⟩ := del_mid hp 0 hk (drF (nxt p.draw))
  have e : delF p 0 k = saidF ⟨(recvA p.a (p.v.getD k noLtr).tag (p.v.getD k noLtr).ch p.now (drF (nxt p.draw))).1, p.b, without p.v k, p.w, p.now, nxt p.draw, p.u, p.t⟩ 0 (recvA p.a (p.v.getD k noLtr).tag (p.v.getD k noLtr).ch p.now (drF (nxt p.draw))).2 := rfl
  rw [e]
  repeat' (first
    | exact .inr rfl
    | refine .inr ?_
    | exact ⟨(p.v.getD k noLtr).ch, rfl, hsm⟩
    | exact ⟨p.a, _, (p.v.getD k noLtr).ch, p.now, drF (nxt p.draw), rfl, hp.a, hx, hw, drF_ok _⟩
    | exact ⟨⟨(recvA p.a (p.v.getD k noLtr).tag (p.v.getD k noLtr).ch p.now (drF (nxt p.draw))).1, p.b, without p.v k, p.w, p.now, nxt p.draw, p.u, p.t⟩, 0, (recvA p.a (p.v.getD k noLtr).tag (p.v.getD k noLtr).ch p.now (drF (nxt p.draw))).2, wayD p.v k, .recs 4 p.w.length (ltrCell p.w), rfl, .inl rfl, wayD_as p.v hk, asLt_self p.w, hm1, hm2⟩
    | exact rfl | exact trivial | omega | apply And.intro | (intro i hi j hj; exact rfl) | intro _)
-- a

@[reducible] noncomputable def q75b_0 (x0 : Nat) : Int := (↑x0 : Int)
@[reducible] noncomputable def q75b_1 (x0 : PrR) (x1 : Nat) : ChR := (x0.w.getD (q75b_0 x1).toNat noLtr).ch
@[reducible] noncomputable def q75b_3 : TypeInfo := Try.prog.types[150]
@[reducible] noncomputable def q75b_4 (x0 : Nat) (x1 : PrR) : D := D.recs q75b_3.size ((0 : Nat) + (q75b_0 x0).toNat + (x1.w.length - (IntKind.i64.wrap (q75b_0 x0 + (1 : Int))).toNat)) fun (i j : Nat) => bif i.blt ((0 : Nat) + (q75b_0 x0).toNat) then ltrCell x1.w (i - (0 : Nat)) j else ltrCell x1.w ((IntKind.i64.wrap (q75b_0 x0 + (1 : Int))).toNat + (i - ((0 : Nat) + (q75b_0 x0).toNat))) j
@[reducible] def q75b_5 : Prop := (0 : Int) ≤ (1 : Int) ∧ (1 : Int) < (↑(2 : Nat) : Int)
@[reducible] noncomputable def q75b_6 (x0 : PrR) : Int := (↑x0.w.length : Int)
@[reducible] noncomputable def q75b_7 (x0 : PrR) (x1 : Nat) : O := O.agg [iO .u8 (q75b_1 x0 x1).t, iO .u8 (q75b_1 x0 x1).f, O.d (D.ints IntKind.u8 (q75b_1 x0 x1).v)]
@[reducible] noncomputable def q75b_8 (x0 : ChR) : O := O.agg [iO .u8 x0.t, iO .u8 x0.f, O.d (D.ints IntKind.u8 x0.v)]
@[reducible] noncomputable def q75b_9 : List O := [O.own 142 (D.recs 4 (0 : Nat) (ltrCell noOut.pk)), O.own 3 (D.ints IntKind.i64 noOut.ev)]
@[reducible] noncomputable def q75b_10 (x0 : PrR) : O := O.ptr 148 (iO .u64 x0.b.key :: iO .u32 x0.b.win :: iO .i64 x0.b.life :: iO .i64 x0.b.rto :: iO .i64 x0.b.tries :: iO .u32 x0.b.ltag :: iO .u8 x0.b.lch.t :: iO .u8 x0.b.lch.f :: O.d (D.ints IntKind.u8 x0.b.lch.v) :: iO .i64 x0.b.at_ :: iO .i64 x0.b.left :: O.d (D.v (Value.bool x0.b.set)) :: iO .i64 x0.b.st :: iO .u32 x0.b.mt :: iO .u32 x0.b.ms :: iO .u32 x0.b.pt :: iO .u32 x0.b.ps :: q75b_9)
@[reducible] noncomputable def q75b_11 (x0 : PrR) (x1 : Nat) : List O := [iO .u32 (x0.w.getD (q75b_0 x1).toNat noLtr).tag, q75b_7 x0 x1, iO .i64 x0.now, iO .u32 (IntKind.u32.wrap (IntKind.u32.wrap (x0.draw + (1 : Int)) * (2654435769 : Int)))]
@[reducible] noncomputable def q75b_12 (x0 : PrR) : O := O.ptr 152 [iO .u64 x0.b.key, iO .u32 x0.b.win, iO .i64 x0.b.life, iO .i64 x0.b.rto, iO .i64 x0.b.tries, iO .i64 x0.b.st, iO .u32 x0.b.mt, iO .u32 x0.b.pt, iO .u32 x0.b.ms, iO .u32 x0.b.ps, iO .u32 x0.b.ltag, iO .u8 x0.b.lch.t, iO .u8 x0.b.lch.f, O.d (D.ints IntKind.u8 x0.b.lch.v), O.d (D.v (Value.bool x0.b.set)), iO .i64 x0.b.at_, iO .i64 x0.b.left, O.any, O.any]
@[reducible] noncomputable def q75b_13 (x0 : PrR) : O := O.ptr 152 [iO .u64 x0.a.key, iO .u32 x0.a.win, iO .i64 x0.a.life, iO .i64 x0.a.rto, iO .i64 x0.a.tries, iO .i64 x0.a.st, iO .u32 x0.a.mt, iO .u32 x0.a.pt, iO .u32 x0.a.ms, iO .u32 x0.a.ps, iO .u32 x0.a.ltag, iO .u8 x0.a.lch.t, iO .u8 x0.a.lch.f, O.d (D.ints IntKind.u8 x0.a.lch.v), O.d (D.v (Value.bool x0.a.set)), iO .i64 x0.a.at_, iO .i64 x0.a.left, O.any, O.any]
@[reducible] noncomputable def q75b_14 (x0 : PrR) : O := O.ptr 148 (iO .u64 x0.a.key :: iO .u32 x0.a.win :: iO .i64 x0.a.life :: iO .i64 x0.a.rto :: iO .i64 x0.a.tries :: iO .u32 x0.a.ltag :: iO .u8 x0.a.lch.t :: iO .u8 x0.a.lch.f :: O.d (D.ints IntKind.u8 x0.a.lch.v) :: iO .i64 x0.a.at_ :: iO .i64 x0.a.left :: O.d (D.v (Value.bool x0.a.set)) :: iO .i64 x0.a.st :: iO .u32 x0.a.mt :: iO .u32 x0.a.ms :: iO .u32 x0.a.pt :: iO .u32 x0.a.ps :: q75b_9)
@[reducible] noncomputable def q75b_15 (x0 : PrR) : List O := [O.d (D.v (Value.bool false)), O.d (D.v (Value.bool x0.u)), O.d (D.v (Value.bool x0.t))]
@[reducible] noncomputable def q75b_16 (x0 : AsR × OutR) : O := O.agg [O.d (D.recs 4 x0.snd.pk.length (ltrCell x0.snd.pk)), O.d (D.ints IntKind.i64 x0.snd.ev)]
@[reducible] noncomputable def q75b_17 (x0 : OutR) : O := O.agg [O.d (D.recs 4 x0.pk.length (ltrCell x0.pk)), O.d (D.ints IntKind.i64 x0.ev)]
@[reducible] def q75b_18 : Prop := (0 : Nat) = (0 : Nat) ∧ ∀ (i : Nat), i < (0 : Nat) → ∀ (j : Nat), j < (4 : Nat) → ltrCell noOut.pk i j = ltrCell noOut.pk i j
@[reducible] def q75b_19 (x0 : Nat) (x1 : PrR) (x2 : AsR × OutR) (x3 : PrR) (x4 : PrR) : Prop := ((0 : Int) ≤ q75b_0 x0 ∧ q75b_0 x0 ≤ q75b_6 x1) ∧ True ∧
  ((0 : Nat) + (q75b_0 x0).toNat) * q75b_3.bytes ≤ (140737488355328 : Nat) ∧ q75b_5 ∧ True ∧ ((0 : Int) ≤ IntKind.i64.wrap (q75b_0 x0 + (1 : Int)) ∧ IntKind.i64.wrap (q75b_0 x0 + (1 : Int)) ≤ q75b_6 x1) ∧
  (True ∧ ((0 : Nat) + (q75b_0 x0).toNat + (x1.w.length - (IntKind.i64.wrap (q75b_0 x0 + (1 : Int))).toNat)) * q75b_3.bytes ≤ (140737488355328 : Nat) ∧ q75b_5 ∧
  (True ∧ True ∧ q75b_5 ∧ q75b_5 ∧ ((∃ (c : ChR), [q75b_7 x1 x0] = [q75b_8 c] ∧ sm c.v.length) ∧ ((∃ (s : AsR), ∃ (t : Int), ∃ (c : ChR), ∃ (w : Int), ∃ (d : Int), q75b_10 x1 :: q75b_11 x1 x0 = [O.ptr 148 (iO .u64 s.key :: iO .u32 s.win :: iO .i64 s.life :: iO .i64 s.rto :: iO .i64 s.tries :: iO .u32 s.ltag :: iO .u8 s.lch.t :: iO .u8 s.lch.f :: O.d (D.ints IntKind.u8 s.lch.v) :: iO .i64 s.at_ :: iO .i64 s.left :: O.d (D.v (Value.bool s.set)) :: iO .i64 s.st :: iO .u32 s.mt :: iO .u32 s.ms :: iO .u32 s.pt :: iO .u32 s.ps :: q75b_9), iO .u32 t, q75b_8 c, iO .i64 w, iO .u32 d] ∧
  okAs s ∧ okLt t c ∧ okNow w ∧ okU d) ∧ ((∃ (s : AsR), ∃ (t : Int), ∃ (c : ChR), ∃ (w : Int), ∃ (d : Int), q75b_12 x1 :: q75b_11 x1 x0 = [O.ptr 152 [iO .u64 s.key, iO .u32 s.win, iO .i64 s.life, iO .i64 s.rto, iO .i64 s.tries, iO .i64 s.st, iO .u32 s.mt, iO .u32 s.pt, iO .u32 s.ms, iO .u32 s.ps, iO .u32 s.ltag, iO .u8 s.lch.t, iO .u8 s.lch.f, O.d (D.ints IntKind.u8 s.lch.v), O.d (D.v (Value.bool s.set)), iO .i64 s.at_, iO .i64 s.left, O.any, O.any], iO .u32 t, q75b_8 c, iO .i64 w, iO .u32 d] ∧
  okAs s ∧ okLt t c ∧ okNow w ∧ okU d) ∧ ((∃ (p_1 : PrR), ∃ (s : Int), ∃ (o : OutR), ∃ (A : D), ∃ (B : D), [O.ptr 59 (q75b_13 x1 :: O.ptr 152 [iO .u64 x2.fst.key, iO .u32 x2.fst.win, iO .i64 x2.fst.life, iO .i64 x2.fst.rto, iO .i64 x2.fst.tries, iO .i64 x2.fst.st, iO .u32 x2.fst.mt, iO .u32 x2.fst.pt, iO .u32 x2.fst.ms, iO .u32 x2.fst.ps, iO .u32 x2.fst.ltag, iO .u8 x2.fst.lch.t, iO .u8 x2.fst.lch.f, O.d (D.ints IntKind.u8 x2.fst.lch.v), O.d (D.v (Value.bool x2.fst.set)), iO .i64 x2.fst.at_, iO .i64 x2.fst.left, O.any, O.any] :: q75b_14 x1 :: O.ptr 148 (iO .u64 x2.fst.key :: iO .u32 x2.fst.win :: iO .i64 x2.fst.life :: iO .i64 x2.fst.rto :: iO .i64 x2.fst.tries :: iO .u32 x2.fst.ltag :: iO .u8 x2.fst.lch.t :: iO .u8 x2.fst.lch.f :: O.d (D.ints IntKind.u8 x2.fst.lch.v) :: iO .i64 x2.fst.at_ :: iO .i64 x2.fst.left :: O.d (D.v (Value.bool x2.fst.set)) :: iO .i64 x2.fst.st :: iO .u32 x2.fst.mt :: iO .u32 x2.fst.ms :: iO .u32 x2.fst.pt :: iO .u32 x2.fst.ps :: q75b_9) :: O.own 150 (D.recs 4 x1.v.length (ltrCell x1.v)) :: O.own 150 (q75b_4 x0 x1) :: iO .i64 x1.now :: iO .u32 (IntKind.u32.wrap (x1.draw + (1 : Int))) :: q75b_15 x1), iO .i64 (1 : Int), q75b_16 x2, q75b_16 x2] = [O.ptr 59 (q75b_13 p_1 :: q75b_12 p_1 :: q75b_14 p_1 :: q75b_10 p_1 :: O.own 150 A :: O.own 150 B :: iO .i64 p_1.now :: iO .u32 p_1.draw :: q75b_15 p_1), iO .i64 s, q75b_17 o, q75b_17 o] ∧
  (s = (0 : Int) ∨ s = (1 : Int)) ∧ asLt A p_1.v ∧ asLt B p_1.w ∧ okP (2000 : Nat) p_1 ∧ okO o) ∧ x3.a.key = x4.a.key ∧ x3.a.win = x4.a.win ∧ x3.a.life = x4.a.life ∧
  x3.a.rto = x4.a.rto ∧ x3.a.tries = x4.a.tries ∧ x3.a.st = x4.a.st ∧ x3.a.mt = x4.a.mt ∧ x3.a.pt = x4.a.pt ∧ x3.a.ms = x4.a.ms ∧ x3.a.ps = x4.a.ps ∧ x3.a.ltag = x4.a.ltag ∧
  x3.a.lch.t = x4.a.lch.t ∧ x3.a.lch.f = x4.a.lch.f ∧ x3.a.lch.v = x4.a.lch.v ∧ x3.a.set = x4.a.set ∧ x3.a.at_ = x4.a.at_ ∧ x3.a.left = x4.a.left ∧ x3.b.key = x4.b.key ∧
  x3.b.win = x4.b.win ∧ x3.b.life = x4.b.life ∧ x3.b.rto = x4.b.rto ∧ x3.b.tries = x4.b.tries ∧ x3.b.st = x4.b.st ∧ x3.b.mt = x4.b.mt ∧ x3.b.pt = x4.b.pt ∧
  x3.b.ms = x4.b.ms ∧ x3.b.ps = x4.b.ps ∧ x3.b.ltag = x4.b.ltag ∧ x3.b.lch.t = x4.b.lch.t ∧ x3.b.lch.f = x4.b.lch.f ∧ x3.b.lch.v = x4.b.lch.v ∧ x3.b.set = x4.b.set ∧
  x3.b.at_ = x4.b.at_ ∧ x3.b.left = x4.b.left ∧ x3.a.key = x4.a.key ∧ x3.a.win = x4.a.win ∧ x3.a.life = x4.a.life ∧ x3.a.rto = x4.a.rto ∧ x3.a.tries = x4.a.tries ∧
  x3.a.ltag = x4.a.ltag ∧ x3.a.lch.t = x4.a.lch.t ∧ x3.a.lch.f = x4.a.lch.f ∧ x3.a.lch.v = x4.a.lch.v ∧ x3.a.at_ = x4.a.at_ ∧ x3.a.left = x4.a.left ∧ x3.a.set = x4.a.set ∧
  x3.a.st = x4.a.st ∧ x3.a.mt = x4.a.mt ∧ x3.a.ms = x4.a.ms ∧ x3.a.pt = x4.a.pt ∧ x3.a.ps = x4.a.ps ∧ q75b_18 ∧ noOut.ev = noOut.ev ∧ x3.b.key = x4.b.key ∧
  x3.b.win = x4.b.win ∧ x3.b.life = x4.b.life ∧ x3.b.rto = x4.b.rto ∧ x3.b.tries = x4.b.tries ∧ x3.b.ltag = x4.b.ltag ∧ x3.b.lch.t = x4.b.lch.t ∧ x3.b.lch.f = x4.b.lch.f ∧
  x3.b.lch.v = x4.b.lch.v ∧ x3.b.at_ = x4.b.at_ ∧ x3.b.left = x4.b.left ∧ x3.b.set = x4.b.set ∧ x3.b.st = x4.b.st ∧ x3.b.mt = x4.b.mt ∧ x3.b.ms = x4.b.ms ∧
  x3.b.pt = x4.b.pt ∧ x3.b.ps = x4.b.ps ∧ q75b_18 ∧ noOut.ev = noOut.ev ∧ (x3.v.length = x4.v.length ∧ ∀ (i : Nat), i < x3.v.length → ∀ (j : Nat), j < (4 : Nat) →
  ltrCell x3.v i j = ltrCell x4.v i j) ∧ (x3.w.length = x4.w.length ∧ ∀ (i : Nat), i < x3.w.length → ∀ (j : Nat), j < (4 : Nat) → ltrCell x3.w i j = ltrCell x4.w i j) ∧
  x3.now = x4.now ∧ x3.draw = x4.draw ∧ false = false ∧ x3.u = x4.u ∧ x3.t = x4.t ∧ (true && true && true) = true) ∧
  True) ∧ True) ∧ True) ∧ True) ∧ True) ∧ True
set_option maxHeartbeats 4000000 in
theorem vc75b : ∀ (p : PrR), have y := ltrsOf (D.recs 4 p.w.length (ltrCell p.w)); have y_1 := ltrsOf (D.recs 4 p.v.length (ltrCell p.v));
  ∀ (k : Nat), have y_2 := delF (PrR.mk p.a p.b y_1 y p.now p.draw p.u p.t) (1 : Int) (q75b_0 k).toNat; have y_3 := recvA p.b (p.w.getD (q75b_0 k).toNat noLtr).tag (q75b_1 p k) p.now (IntKind.u32.wrap (IntKind.u32.wrap (p.draw + (1 : Int)) * (2654435769 : Int)));
  have y_4 := ltrsOf (D.recs 4 y_3.snd.pk.length (ltrCell y_3.snd.pk)); have y_5 := ltrsOf (q75b_4 k p); have y_6 := saidF (PrR.mk p.a y_3.fst y_1 y_5 p.now (IntKind.u32.wrap (p.draw + (1 : Int))) p.u p.t) (1 : Int) (OutR.mk y_4 y_3.snd.ev);
  okP (1990 : Nat) p → k < p.w.length → q75b_5 ∧ ((0 : Int) ≤ q75b_0 k ∧ q75b_0 k < q75b_6 p) ∧ q75b_5 ∧ sw (decide (q75b_0 k = (0 : Int))) (True ∧ (0 : Nat) ≤ (140737488355328 : Nat) ∧
  q75b_5 ∧ True ∧ False ∨ q75b_19 k p y_3 y_6 y_2) (q75b_19 k p y_3 y_6 y_2) := by
  delta q75b_0 q75b_1 q75b_3 q75b_4 q75b_5 q75b_6 q75b_7 q75b_8 q75b_9 q75b_10 q75b_11 q75b_12 q75b_13 q75b_14 q75b_15 q75b_16 q75b_17 q75b_18 q75b_19
    iO
  simp only [size150, bytes150, ltrsOf_ltrs, pr_eta', out_eta, sw_iff, wrap_nxt, wrap_dr, Int.toNat_natCast]
  intro p k hp hk
  have hn := hp.len
  unfold lenP at hn
  have wk : IntKind.i64.wrap ((k : Int) + 1) = ((k + 1 : Nat) : Int) := wrap_succ (n := 1990) (by omega) (by omega)
  have hF : ltrsOf (wayD p.w k) = without p.w k := (wayD_as p.w hk).1
  unfold wayD at hF
  simp only [wk, Int.toNat_natCast, hF]
  have hx := lt_getD (k := k) hp.w
  have hsm : sm (p.w.getD k noLtr).ch.v.length := by have := hx.2.2; unfold sm; omega
  have hw : okNow p.now := okNow_of hp.now (by omega)
  obtain ⟨hm1, hm2⟩ := del_mid hp 1 hk (drF (nxt p.draw))
  have e : delF p 1 k = saidF ⟨p.a, (recvA p.b (p.w.getD k noLtr).tag (p.w.getD k noLtr).ch p.now (drF (nxt p.draw))).1, p.v, without p.w k, p.now, nxt p.draw, p.u, p.t⟩ 1 (recvA p.b (p.w.getD k noLtr).tag (p.w.getD k noLtr).ch p.now (drF (nxt p.draw))).2 := rfl
  rw [e]
  repeat' (first
    | exact .inr rfl
    | refine .inr ?_
    | exact ⟨(p.w.getD k noLtr).ch, rfl, hsm⟩
    | exact ⟨p.b, _, (p.w.getD k noLtr).ch, p.now, drF (nxt p.draw), rfl, hp.b, hx, hw, drF_ok _⟩
    | exact ⟨⟨p.a, (recvA p.b (p.w.getD k noLtr).tag (p.w.getD k noLtr).ch p.now (drF (nxt p.draw))).1, p.v, without p.w k, p.now, nxt p.draw, p.u, p.t⟩, 1, (recvA p.b (p.w.getD k noLtr).tag (p.w.getD k noLtr).ch p.now (drF (nxt p.draw))).2, .recs 4 p.v.length (ltrCell p.v), wayD p.w k, rfl, .inr rfl, asLt_self p.v, wayD_as p.w hk, hm1, hm2⟩
    | exact rfl | exact trivial | omega | apply And.intro | (intro i hi j hj; exact rfl) | intro _)
-- b
theorem ok75 : FnIs Try.prog 75 delC := by
  refine fnIs (C := ctrsJ Try.prog l6 iN 3) (by kernel_rfl) (cokJ (by kernel_rfl) l6_ok iN_ok) Try.func75 (code := code75) (by kernel_rfl) (by kernel_rfl) ?_
  rintro a ⟨p, s, k, rfl, hs, hp, hk⟩
  rcases hs with rfl | rfl
  · exact ⟨anns [], kcast (vc75a p k hp hk) (by kernel_rfl)⟩
  · exact ⟨anns [], kcast (vc75b p k hp hk) (by kernel_rfl)⟩

end Go.ZR

set_option maxRecDepth 100000
namespace Go.ZR
open Go.Z Go.ZM Go.Proofs
def mvO (m : MvR) : O := .agg [iO .i64 m.kind, iO .i64 m.s, iO .i64 m.k]
def mvOf : O → MvR
  | .agg [a, b, c] => ⟨vi (dO a), vi (dO b), vi (dO c)⟩
  | _ => noMv
def movC : Ctr := prC 1 (fun a => ∃ p m, a = [prO p, mvO m] ∧ okP 1900 p) (fun a => moveF (pO a) (mvOf (at_ a 1))) fun _ => []
def l7 : List (Nat × Ctr) := [(75, delC), (31, saidC), (29, openRC asO outO), (30, openRC rfO outW), (73, tickRC asO outO), (74, tickRC rfO outW), (76, closeRC asO outO), (77, closeRC rfO outW), (78, drainRC asO outO), (79, drainRC rfO outW), (80, abortRC asO outO), (81, abortRC rfO outW), (66, freshPC)]
theorem l7_ok : COk Try.prog (ctrs l7) := cok_cons ok75 (cok_cons ok31w (cok_cons ok29 (cok_cons ok30 (cok_cons ok73 (cok_cons ok74 (cok_cons ok76 (cok_cons ok77 (cok_cons ok78 (cok_cons ok79 (cok_cons ok80 (cok_cons ok81 (cok_cons ok66 cok_nil))))))))))))
end Go.ZR
