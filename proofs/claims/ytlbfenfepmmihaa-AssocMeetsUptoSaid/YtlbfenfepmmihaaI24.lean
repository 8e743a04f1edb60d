/- Part 24 of what the closing text rests on. -/
import Derived.Test.YtlbfenfepmmihaaI23
import Derived.Test.YtlbfenfepmmihaaRows
namespace Go.ZR
open Go.Proofs
open Go.Z Go.ZM Go.RowKit
set_option maxRecDepth 100000
theorem mv_w {p : PrR} {K s k : Int} (h : ¬ s.tmod 2 = 0) : moveF p ⟨K, s, k⟩ = moveS p 1 (kF p.w.length k) K := by
  have e : sdF ⟨K, s, k⟩ = 1 := by unfold sdF; rw [if_pos h]
  unfold moveF
  rw [e]
  rfl
theorem mv_v {p : PrR} {K s k : Int} (h : s.tmod 2 = 0) : moveF p ⟨K, s, k⟩ = moveS p 0 (kF p.v.length k) K := by
  have e : sdF ⟨K, s, k⟩ = 0 := by unfold sdF; rw [if_neg (fun g => g h)]
  unfold moveF
  rw [e]
  rfl
theorem tmod_nat {n : Nat} {k : Int} (h : (0 : Int) < n) (h' : 0 < k) : ((k.tmod n).toNat : Int) = k.tmod n ∧ (k.tmod n).toNat < n ∧ (k.tmod n).toNat = k.toNat % n := by
  have e : k.tmod n = ((k.toNat % n : Nat) : Int) := by
    obtain ⟨m, rfl⟩ : ∃ m : Nat, k = m := ⟨k.toNat, by omega⟩
    rw [Int.toNat_natCast, Int.ofNat_tmod]
  have hn : 0 < n := by omega
  rw [e, Int.toNat_natCast]
  exact ⟨rfl, Nat.mod_lt _ hn, rfl⟩
theorem kF_mod {n : Nat} {k : Int} (h : (0 : Int) < n) (h' : 0 < k) : kF n k = (k.tmod n).toNat := by
  unfold kF
  rw [if_pos ⟨by omega, h'⟩, (tmod_nat h h').2.2]
theorem kF_0 {n : Nat} {k : Int} (h : ¬ (0 : Int) < n) : kF n k = 0 := by
  unfold kF
  rw [if_neg (fun g => h (by omega))]
theorem kF_0' {n : Nat} {k : Int} (h : ¬ 0 < k) : kF n k = 0 := by
  unfold kF
  rw [if_neg (fun g => h g.2)]
theorem wayD_at (v : List LtrR) (k i j : Nat) (hk : k < v.length) : (bif i.blt (0 + k) then ltrCell v (i - 0) j else ltrCell v (k + 1 + (i - (0 + k))) j) = ltrCell (without v k) i j := by
  have e : (without v k).getD i noLtr = bif i.blt (0 + k) then v.getD (i - 0) noLtr else v.getD (k + 1 + (i - (0 + k))) noLtr := by
    unfold without
    cases h : i.blt (0 + k) with
    | true =>
      have h : i < k := by have := Nat.le_of_ble_eq_true h; omega
      show (v.take k ++ v.drop (k + 1)).getD i noLtr = v.getD i noLtr
      simp only [List.getD]
      rw [List.getElem?_append_left (by rw [List.length_take]; omega), List.getElem?_take_of_lt h]
    | false =>
      have h : ¬ i < k := by
        intro g
        have : i.blt (0 + k) = true := Nat.ble_eq_true_of_le (by omega)
        rw [this] at h; cases h
      show (v.take k ++ v.drop (k + 1)).getD i noLtr = v.getD (k + 1 + (i - (0 + k))) noLtr
      simp only [List.getD]
      rw [List.getElem?_append_right (by rw [List.length_take]; omega), List.getElem?_drop, List.length_take]
      congr 2
      omega
  unfold ltrCell
  rw [e]
  cases i.blt (0 + k) <;> rfl
theorem del_pre0 {p : PrR} (hp : okP 1900 p) {s : Int} (hs : isS s) (h : (0 : Int) < (wayF p s).length) :
    ∃ (q : PrR) (t : Int) (k : Nat), [prO p, iO .i64 s, iO .i64 0] = [prO q, iO .i64 t, iO .i64 (k : Int)] ∧ isS t ∧ okP 1990 q ∧ k < (wayF q t).length :=
  ⟨p, s, 0, rfl, hs, okPr.mono hp (by omega) (by omega), by omega⟩
theorem del_pre1 {p : PrR} (hp : okP 1900 p) {s k : Int} (hs : isS s) (h : (0 : Int) < (wayF p s).length) (hk : 0 < k) :
    ∃ (q : PrR) (t : Int) (j : Nat), [prO p, iO .i64 s, iO .i64 (k.tmod (wayF p s).length)] = [prO q, iO .i64 t, iO .i64 (j : Int)] ∧ isS t ∧ okP 1990 q ∧ j < (wayF q t).length := by
  obtain ⟨h1, h2, _⟩ := tmod_nat h hk
  refine ⟨p, s, (k.tmod (wayF p s).length).toNat, ?_, hs, okPr.mono hp (by omega) (by omega), h2⟩
  rw [h1]
theorem ms1 {p : PrR} {s : Int} {k : Nat} (h : (0 : Int) < (wayF p s).length) : moveS p s k 1 = delF p s k := by
  unfold moveS
  rw [if_pos rfl, if_pos (by omega)]
theorem ms1' {p : PrR} {s : Int} {k : Nat} (h : ¬ (0 : Int) < (wayF p s).length) : moveS p s k 1 = p := by
  unfold moveS
  rw [if_pos rfl, if_neg (by omega)]
theorem ms2 {p : PrR} {s : Int} {k : Nat} (h : (0 : Int) < (wayF p s).length) : moveS p s k 2 = putW p s (without (wayF p s) k) := by
  unfold moveS
  rw [if_neg (by decide), if_pos rfl, if_pos (by omega)]
theorem ms2' {p : PrR} {s : Int} {k : Nat} (h : ¬ (0 : Int) < (wayF p s).length) : moveS p s k 2 = p := by
  unfold moveS
  rw [if_neg (by decide), if_pos rfl, if_neg (by omega)]
theorem ms3 {p : PrR} {s : Int} {k : Nat} (h : (0 : Int) < (wayF p s).length) (g : ((wayF p s).length : Int) < 40) : moveS p s k 3 = putW p s (wayF p s ++ [(wayF p s).getD k noLtr]) := by
  unfold moveS
  rw [if_neg (by decide), if_neg (by decide), if_pos rfl, if_pos ⟨by omega, by omega⟩]
theorem ms3' {p : PrR} {s : Int} {k : Nat} (h : ¬ ((0 : Int) < (wayF p s).length ∧ ((wayF p s).length : Int) < 40)) : moveS p s k 3 = p := by
  unfold moveS
  rw [if_neg (by decide), if_neg (by decide), if_pos rfl, if_neg (fun g => h ⟨by omega, by omega⟩)]
theorem ms_z {p : PrR} {s : Int} {k : Nat} {K : Int} (h : K ≠ 1 ∧ K ≠ 2 ∧ K ≠ 3 ∧ K ≠ 4 ∧ K ≠ 5 ∧ K ≠ 6 ∧ K ≠ 7 ∧ K ≠ 8 ∧ K ≠ 9) : moveS p s k K = p := by
  obtain ⟨h1, h2, h3, h4, h5, h6, h7, h8, h9⟩ := h
  unfold moveS
  rw [if_neg h1, if_neg h2, if_neg h3, if_neg h4, if_neg h5, if_neg h6, if_neg h7, if_neg h8, if_neg h9]
theorem wr_tm {n : Nat} {k : Int} (h : (0 : Int) < n) (h' : 0 < k) (hn : n ≤ 1900) : IntKind.i64.wrap (k.tmod n + 1) = (((k.tmod n).toNat + 1 : Nat) : Int) := by
  obtain ⟨h1, h2, _⟩ := tmod_nat h h'
  rw [wrap_i64_id (by omega) (by omega)]
  omega
theorem mv_w' {p : PrR} {m : MvR} (h : ¬ m.s.tmod 2 = 0) : moveF p m = moveS p 1 (kF p.w.length m.k) m.kind := mv_w h
theorem mv_v' {p : PrR} {m : MvR} (h : m.s.tmod 2 = 0) : moveF p m = moveS p 0 (kF p.v.length m.k) m.kind := mv_v h
theorem ms4 {p : PrR} {s : Int} {k : Nat} : moveS p s k 4 = hear (drawn p) s (two (openA (sideF p s) (lot p) (4294967295 - lot p) p.now)) := by
  unfold moveS
  rw [if_neg (by decide), if_neg (by decide), if_neg (by decide), if_pos rfl]
theorem ms5 {p : PrR} {s : Int} {k : Nat} : moveS p s k 5 = hear { p with now := p.now + 1 } s (tickA (sideF p s) (p.now + 1)) := by
  unfold moveS
  rw [if_neg (by decide), if_neg (by decide), if_neg (by decide), if_neg (by decide), if_pos rfl]
theorem ms6 {p : PrR} {s : Int} {k : Nat} : moveS p s k 6 = hear p s (two (closeA (sideF p s) p.now true)) := by
  unfold moveS
  rw [if_neg (by decide), if_neg (by decide), if_neg (by decide), if_neg (by decide), if_neg (by decide), if_pos rfl]
theorem ms7 {p : PrR} {s : Int} {k : Nat} : moveS p s k 7 = hear p s (drainA (sideF p s) p.now) := by
  unfold moveS
  rw [if_neg (by decide), if_neg (by decide), if_neg (by decide), if_neg (by decide), if_neg (by decide), if_neg (by decide), if_pos rfl]
theorem ms8 {p : PrR} {s : Int} {k : Nat} : moveS p s k 8 = hear p s (abortA (sideF p s)) := by
  unfold moveS
  rw [if_neg (by decide), if_neg (by decide), if_neg (by decide), if_neg (by decide), if_neg (by decide), if_neg (by decide), if_neg (by decide), if_pos rfl]
theorem ms9 {p : PrR} {s : Int} {k : Nat} : moveS p s k 9 = startF p s := by
  unfold moveS
  rw [if_neg (by decide), if_neg (by decide), if_neg (by decide), if_neg (by decide), if_neg (by decide), if_neg (by decide), if_neg (by decide), if_neg (by decide), if_pos rfl]
theorem said_pre (q : PrR) {s : Int} {o : OutR} (hs : isS s) (hq : okP 2000 q ∧ okO o) :
    ∃ p_1 s_1 o_1 A B, [O.ptr 59 (prL q (wyO q.v) (wyO q.w)), iO .i64 s, outW o, outW o] = [.ptr 59 (prL p_1 (.own 150 A) (.own 150 B)), iO .i64 s_1, outW o_1, outW o_1] ∧ isS s_1 ∧ asLt A p_1.v ∧ asLt B p_1.w ∧ okP 2000 p_1 ∧ okO o_1 :=
  ⟨q, s, o, _, _, rfl, hs, asLt_self _, asLt_self _, hq.1, hq.2⟩
theorem evs_open (a : AsR) (t n w : Int) : evs (openA a t n w).2.1.ev := by
  unfold openA
  split
  · exact .inl rfl
  split
  · exact .inl rfl
  · exact .inl rfl
theorem evs_close (a : AsR) (w : Int) (b : Bool) : evs (closeA a w b).2.1.ev := by
  unfold closeA
  split
  · exact .inl rfl
  split
  · exact .inl rfl
  · exact .inl rfl
theorem evs_drain (a : AsR) (w : Int) : evs (drainA a w).2.ev := by
  unfold drainA
  exact evs_ite (.inl rfl) (evs_ite (.inl rfl) (.inl rfl))
theorem evs_abort (a : AsR) : evs (abortA a).2.ev := by
  unfold abortA
  refine evs_ite (.inl rfl) ?_
  show evs (if a.pt = 0 then noOut else _ : OutR).ev
  split <;> exact .inl rfl
theorem put_mid {p : PrR} (hp : okPr 1950 1950 p) (s : Int) {x : AsR} {o : OutR} (h : okR (x, o)) (h1 : o.pk.length ≤ 1) (he : evs o.ev) : okP 2000 (putS p s x) ∧ okO o := ⟨(hp.putS s h.1).mono (by omega) (by omega), h.2, h1, he⟩
theorem up50 {p : PrR} (hp : okP 1900 p) : okPr 1950 1950 p := okPr.mono hp (by omega) (by omega)
theorem open_mid {p : PrR} (hp : okP 1900 p) (s : Int) {d : Int} (hd : okU d) : okP 2000 (putS (drawn p) s (openA (sideF p s) d (4294967295 - d) p.now).1) ∧ okO (openA (sideF p s) d (4294967295 - d) p.now).2.1 :=
  have h2 : okR ((openA (sideF p s) d (4294967295 - d) p.now).1, (openA (sideF p s) d (4294967295 - d) p.now).2.1) := Go.ZM.open_ok (okPr.side hp s) hd (okU_sub hd) (okNow_of hp.now (by omega))
  ⟨((up50 hp).drawn.putS s h2.1).mono (by omega) (by omega), h2.2, one_open _ _ _ _, evs_open _ _ _ _⟩
theorem tick_mid {p : PrR} (hp : okP 1900 p) (s : Int) : okP 2000 (putS { p with now := p.now + 1 } s (tickA (sideF p s) (p.now + 1)).1) ∧ okO (tickA (sideF p s) (p.now + 1)).2 := by
  have h1 : okPr 1950 1950 { p with now := p.now + 1 } := (okPr.tick hp).mono (by omega) (by omega)
  have hw : okNow (p.now + 1) := okNow_of (N := 1901) (by have := hp.now; omega) (by omega)
  have h2 : okR (tickA (sideF p s) (p.now + 1)) := tick_ok (okPr.side hp s) hw
  exact ⟨(h1.putS s h2.1).mono (by omega) (by omega), h2.2, one_tick _ _, evs_tick _ _⟩
theorem close_mid {p : PrR} (hp : okP 1900 p) (s : Int) : okP 2000 (putS p s (closeA (sideF p s) p.now true).1) ∧ okO (closeA (sideF p s) p.now true).2.1 :=
  put_mid (up50 hp) s (Go.ZM.close_ok (okPr.side hp s) (okNow_of hp.now (by omega))) (one_close _ _ _) (evs_close _ _ _)
theorem drain_mid {p : PrR} (hp : okP 1900 p) (s : Int) : okP 2000 (putS p s (drainA (sideF p s) p.now).1) ∧ okO (drainA (sideF p s) p.now).2 :=
  put_mid (up50 hp) s (drain_ok (okPr.side hp s) (okNow_of hp.now (by omega))) (one_drain _ _) (evs_drain _ _)
theorem abort_mid {p : PrR} (hp : okP 1900 p) (s : Int) : okP 2000 (putS p s (abortA (sideF p s)).1) ∧ okO (abortA (sideF p s)).2 :=
  put_mid (up50 hp) s (abort_ok (okPr.side hp s)) (one_abort _) (evs_abort _)
theorem wo_len (v : List LtrR) (k : Nat) (hk : k < v.length) : 0 + k + (v.length - (k + 1)) = (without v k).length := by
  have := without_len hk
  omega
theorem ltr_snoc (v : List LtrR) (x : LtrR) (i j : Nat) (hi : i < v.length + 1) (hj : j < 4) :
    (bif i.blt v.length then ltrCell v i j else [D.v (Value.int IntKind.u32 x.tag), D.v (Value.int IntKind.u8 x.ch.t), D.v (Value.int IntKind.u8 x.ch.f), D.ints IntKind.u8 x.ch.v].getD ((i - v.length) * 4 + j) (D.v undef)) = ltrCell (v ++ [x]) i j := by
  rw [← ltr_app v [x] i j]
  cases h : i.blt v.length with
  | true => rfl
  | false =>
    have h : ¬ i < v.length := by
      intro g
      have : i.blt v.length = true := Nat.ble_eq_true_of_le g
      rw [this] at h; cases h
    rw [show i - v.length = 0 by omega]
    match j, hj with
    | 0, _ => rfl
    | 1, _ => rfl
    | 2, _ => rfl
    | 3, _ => rfl
theorem wrap_key9 {d : Int} (h : okU d) : IntKind.u64.wrap (IntKind.u64.wrap d * 2 ^ min (Int.toNat 32) IntKind.u64.bits) = d * 4294967296 := by
  unfold okU at h
  have e : (2 : Int) ^ min (Int.toNat 32) IntKind.u64.bits = 4294967296 := by decide
  rw [e, IntKind.wrap_u64, IntKind.wrap_u64]
  omega
@[reducible] noncomputable def q36a_0 (x0 : PrR) : List LtrR := ltrsOf (D.recs 4 x0.v.length (ltrCell x0.v))
@[reducible] noncomputable def q36a_1 (x0 : PrR) : List LtrR := ltrsOf (D.recs 4 x0.w.length (ltrCell x0.w))
@[reducible] noncomputable def q36a_2 (x0 : PrR) (x1 : List LtrR) (x2 : List LtrR) : PrR := PrR.mk x0.a x0.b x1 x2 x0.now x0.draw x0.u x0.t
@[reducible] noncomputable def q36a_3 (x0 : PrR) : Int := (↑x0.v.length : Int)
@[reducible] noncomputable def q36a_4 (x0 : PrR) : Int := (↑x0.w.length : Int)
@[reducible] noncomputable def q36a_5 (x0 : Int) : Bool := !decide (x0.tmod (2 : Int) = (0 : Int))
@[reducible] def q36a_6 : Prop := (0 : Int) ≤ (1 : Int) ∧ (1 : Int) < (↑(2 : Nat) : Int)
@[reducible] noncomputable def q36a_7 (x0 : PrR) : Bool := decide ((0 : Int) < q36a_4 x0)
@[reducible] noncomputable def q36a_8 (x0 : Int) : Bool := decide ((0 : Int) < x0)
@[reducible] noncomputable def q36a_9 (x0 : PrR) : O := O.ptr 152 [iO .u64 x0.a.key, iO .u32 x0.a.win, iO .i64 x0.a.life, iO .i64 x0.a.rto, iO .i64 x0.a.tries, iO .i64 x0.a.st, iO .u32 x0.a.mt, iO .u32 x0.a.pt, iO .u32 x0.a.ms, iO .u32 x0.a.ps, iO .u32 x0.a.ltag, iO .u8 x0.a.lch.t, iO .u8 x0.a.lch.f, O.d (D.ints IntKind.u8 x0.a.lch.v), O.d (D.v (Value.bool x0.a.set)), iO .i64 x0.a.at_, iO .i64 x0.a.left, O.any, O.any]
@[reducible] noncomputable def q36a_10 (x0 : PrR) : O := O.ptr 152 [iO .u64 x0.b.key, iO .u32 x0.b.win, iO .i64 x0.b.life, iO .i64 x0.b.rto, iO .i64 x0.b.tries, iO .i64 x0.b.st, iO .u32 x0.b.mt, iO .u32 x0.b.pt, iO .u32 x0.b.ms, iO .u32 x0.b.ps, iO .u32 x0.b.ltag, iO .u8 x0.b.lch.t, iO .u8 x0.b.lch.f, O.d (D.ints IntKind.u8 x0.b.lch.v), O.d (D.v (Value.bool x0.b.set)), iO .i64 x0.b.at_, iO .i64 x0.b.left, O.any, O.any]
@[reducible] noncomputable def q36a_11 : List O := [O.own 142 (D.recs 4 (0 : Nat) (ltrCell noOut.pk)), O.own 3 (D.ints IntKind.i64 noOut.ev)]
@[reducible] noncomputable def q36a_12 (x0 : PrR) : O := O.ptr 148 (iO .u64 x0.a.key :: iO .u32 x0.a.win :: iO .i64 x0.a.life :: iO .i64 x0.a.rto :: iO .i64 x0.a.tries :: iO .u32 x0.a.ltag :: iO .u8 x0.a.lch.t :: iO .u8 x0.a.lch.f :: O.d (D.ints IntKind.u8 x0.a.lch.v) :: iO .i64 x0.a.at_ :: iO .i64 x0.a.left :: O.d (D.v (Value.bool x0.a.set)) :: iO .i64 x0.a.st :: iO .u32 x0.a.mt :: iO .u32 x0.a.ms :: iO .u32 x0.a.pt :: iO .u32 x0.a.ps :: q36a_11)
@[reducible] noncomputable def q36a_13 (x0 : PrR) : O := O.ptr 148 (iO .u64 x0.b.key :: iO .u32 x0.b.win :: iO .i64 x0.b.life :: iO .i64 x0.b.rto :: iO .i64 x0.b.tries :: iO .u32 x0.b.ltag :: iO .u8 x0.b.lch.t :: iO .u8 x0.b.lch.f :: O.d (D.ints IntKind.u8 x0.b.lch.v) :: iO .i64 x0.b.at_ :: iO .i64 x0.b.left :: O.d (D.v (Value.bool x0.b.set)) :: iO .i64 x0.b.st :: iO .u32 x0.b.mt :: iO .u32 x0.b.ms :: iO .u32 x0.b.pt :: iO .u32 x0.b.ps :: q36a_11)
@[reducible] noncomputable def q36a_14 (x0 : PrR) : List O := [iO .i64 x0.now, iO .u32 x0.draw, O.d (D.v (Value.bool false)), O.d (D.v (Value.bool x0.u)), O.d (D.v (Value.bool x0.t))]
@[reducible] noncomputable def q36a_15 (x0 : PrR) : List O := O.own 150 (D.recs 4 x0.v.length (ltrCell x0.v)) :: O.own 150 (D.recs 4 x0.w.length (ltrCell x0.w)) :: q36a_14 x0
@[reducible] noncomputable def q36a_16 (x0 : PrR) : O := O.ptr 59 (q36a_9 x0 :: q36a_10 x0 :: q36a_12 x0 :: q36a_13 x0 :: q36a_15 x0)
@[reducible] noncomputable def q36a_17 : O := iO .i64 (1 : Int)
@[reducible] noncomputable def q36a_18 (x0 : Int) : O := iO .i64 x0
@[reducible] noncomputable def q36a_19 (x0 : PrR) (x1 : Int) (x2 : Nat) : List O := [q36a_16 x0, q36a_18 x1, iO .i64 (↑x2 : Int)]
@[reducible] def q36a_20 (x0 : Int) (x1 : PrR) (x2 : Nat) : Prop := (x0 = (0 : Int) ∨ x0 = (1 : Int)) ∧ okP (1990 : Nat) x1 ∧ x2 < (wayF x1 x0).length
@[reducible] def q36a_21 (x0 : PrR) (x1 : PrR) : Prop := x0.a.lch.t = x1.a.lch.t
@[reducible] def q36a_22 (x0 : PrR) (x1 : PrR) : Prop := x0.a.lch.f = x1.a.lch.f
@[reducible] def q36a_23 (x0 : PrR) (x1 : PrR) : Prop := x0.a.lch.v = x1.a.lch.v
@[reducible] def q36a_24 (x0 : PrR) (x1 : PrR) : Prop := x0.b.lch.t = x1.b.lch.t
@[reducible] def q36a_25 (x0 : PrR) (x1 : PrR) : Prop := x0.b.lch.f = x1.b.lch.f
@[reducible] def q36a_26 (x0 : PrR) (x1 : PrR) : Prop := x0.b.lch.v = x1.b.lch.v
@[reducible] def q36a_27 : Prop := (0 : Nat) = (0 : Nat) ∧ ∀ (i : Nat), i < (0 : Nat) → ∀ (j : Nat), j < (4 : Nat) → ltrCell noOut.pk i j = ltrCell noOut.pk i j
@[reducible] def q36a_28 : Prop := noOut.ev = noOut.ev
@[reducible] def q36a_29 (x0 : PrR) (x1 : PrR) : Prop := x0.v.length = x1.v.length ∧ ∀ (i : Nat), i < x0.v.length → ∀ (j : Nat), j < (4 : Nat) → ltrCell x0.v i j = ltrCell x1.v i j
@[reducible] def q36a_30 (x0 : PrR) (x1 : PrR) : Prop := x0.w.length = x1.w.length ∧ ∀ (i : Nat), i < x0.w.length → ∀ (j : Nat), j < (4 : Nat) → ltrCell x0.w i j = ltrCell x1.w i j
@[reducible] def q36a_31 : Prop := false = false
@[reducible] def q36a_32 (x0 : PrR) (x1 : PrR) : Prop := x0.a.key = x1.a.key ∧ x0.a.win = x1.a.win ∧ x0.a.life = x1.a.life ∧ x0.a.rto = x1.a.rto ∧ x0.a.tries = x1.a.tries ∧
  x0.a.st = x1.a.st ∧ x0.a.mt = x1.a.mt ∧ x0.a.pt = x1.a.pt ∧ x0.a.ms = x1.a.ms ∧ x0.a.ps = x1.a.ps ∧ x0.a.ltag = x1.a.ltag ∧ q36a_21 x0 x1 ∧ q36a_22 x0 x1 ∧
  q36a_23 x0 x1 ∧ x0.a.set = x1.a.set ∧ x0.a.at_ = x1.a.at_ ∧ x0.a.left = x1.a.left ∧ x0.b.key = x1.b.key ∧ x0.b.win = x1.b.win ∧ x0.b.life = x1.b.life ∧
  x0.b.rto = x1.b.rto ∧ x0.b.tries = x1.b.tries ∧ x0.b.st = x1.b.st ∧ x0.b.mt = x1.b.mt ∧ x0.b.pt = x1.b.pt ∧ x0.b.ms = x1.b.ms ∧ x0.b.ps = x1.b.ps ∧ x0.b.ltag = x1.b.ltag ∧
  q36a_24 x0 x1 ∧ q36a_25 x0 x1 ∧ q36a_26 x0 x1 ∧ x0.b.set = x1.b.set ∧ x0.b.at_ = x1.b.at_ ∧ x0.b.left = x1.b.left ∧ x0.a.key = x1.a.key ∧ x0.a.win = x1.a.win ∧
  x0.a.life = x1.a.life ∧ x0.a.rto = x1.a.rto ∧ x0.a.tries = x1.a.tries ∧ x0.a.ltag = x1.a.ltag ∧ q36a_21 x0 x1 ∧ q36a_22 x0 x1 ∧ q36a_23 x0 x1 ∧ x0.a.at_ = x1.a.at_ ∧
  x0.a.left = x1.a.left ∧ x0.a.set = x1.a.set ∧ x0.a.st = x1.a.st ∧ x0.a.mt = x1.a.mt ∧ x0.a.ms = x1.a.ms ∧ x0.a.pt = x1.a.pt ∧ x0.a.ps = x1.a.ps ∧ q36a_27 ∧
  q36a_28 ∧ x0.b.key = x1.b.key ∧ x0.b.win = x1.b.win ∧ x0.b.life = x1.b.life ∧ x0.b.rto = x1.b.rto ∧ x0.b.tries = x1.b.tries ∧ x0.b.ltag = x1.b.ltag ∧ q36a_24 x0 x1 ∧
  q36a_25 x0 x1 ∧ q36a_26 x0 x1 ∧ x0.b.at_ = x1.b.at_ ∧ x0.b.left = x1.b.left ∧ x0.b.set = x1.b.set ∧ x0.b.st = x1.b.st ∧ x0.b.mt = x1.b.mt ∧ x0.b.ms = x1.b.ms ∧
  x0.b.pt = x1.b.pt ∧ x0.b.ps = x1.b.ps ∧ q36a_27 ∧ q36a_28 ∧ q36a_29 x0 x1 ∧ q36a_30 x0 x1 ∧ x0.now = x1.now ∧ x0.draw = x1.draw ∧ q36a_31 ∧ x0.u = x1.u ∧
  x0.t = x1.t ∧ (true && true && true) = true
@[reducible] def q36a_42 (x0 : PrR) (x1 : PrR) : Prop := x0.a.key = x1.a.key ∧ x0.a.win = x1.a.win ∧ x0.a.life = x1.a.life ∧ x0.a.rto = x1.a.rto ∧ x0.a.tries = x1.a.tries ∧
  x0.a.st = x1.a.st ∧ x0.a.mt = x1.a.mt ∧ x0.a.pt = x1.a.pt ∧ x0.a.ms = x1.a.ms ∧ x0.a.ps = x1.a.ps ∧ x0.a.ltag = x1.a.ltag ∧ q36a_21 x0 x1 ∧ q36a_22 x0 x1 ∧
  q36a_23 x0 x1 ∧ x0.a.set = x1.a.set ∧ x0.a.at_ = x1.a.at_ ∧ x0.a.left = x1.a.left ∧ x0.b.key = x1.b.key ∧ x0.b.win = x1.b.win ∧ x0.b.life = x1.b.life ∧
  x0.b.rto = x1.b.rto ∧ x0.b.tries = x1.b.tries ∧ x0.b.st = x1.b.st ∧ x0.b.mt = x1.b.mt ∧ x0.b.pt = x1.b.pt ∧ x0.b.ms = x1.b.ms ∧ x0.b.ps = x1.b.ps ∧ x0.b.ltag = x1.b.ltag ∧
  q36a_24 x0 x1 ∧ q36a_25 x0 x1 ∧ q36a_26 x0 x1 ∧ x0.b.set = x1.b.set ∧ x0.b.at_ = x1.b.at_ ∧ x0.b.left = x1.b.left ∧ x0.a.key = x1.a.key ∧ x0.a.win = x1.a.win ∧
  x0.a.life = x1.a.life ∧ x0.a.rto = x1.a.rto ∧ x0.a.tries = x1.a.tries ∧ x0.a.ltag = x1.a.ltag ∧ q36a_21 x0 x1 ∧ q36a_22 x0 x1 ∧ q36a_23 x0 x1 ∧ x0.a.at_ = x1.a.at_ ∧
  x0.a.left = x1.a.left ∧ x0.a.set = x1.a.set ∧ x0.a.st = x1.a.st ∧ x0.a.mt = x1.a.mt ∧ x0.a.ms = x1.a.ms ∧ x0.a.pt = x1.a.pt ∧ x0.a.ps = x1.a.ps ∧ q36a_27 ∧
  q36a_28 ∧ x0.b.key = x1.b.key ∧ x0.b.win = x1.b.win ∧ x0.b.life = x1.b.life ∧ x0.b.rto = x1.b.rto ∧ x0.b.tries = x1.b.tries ∧ x0.b.ltag = x1.b.ltag ∧ q36a_24 x0 x1 ∧
  q36a_25 x0 x1 ∧ q36a_26 x0 x1 ∧ x0.b.at_ = x1.b.at_ ∧ x0.b.left = x1.b.left ∧ x0.b.set = x1.b.set ∧ x0.b.st = x1.b.st ∧ x0.b.mt = x1.b.mt ∧ x0.b.ms = x1.b.ms ∧
  x0.b.pt = x1.b.pt ∧ x0.b.ps = x1.b.ps ∧ q36a_27 ∧ q36a_28 ∧ q36a_29 x0 x1 ∧ q36a_30 x0 x1 ∧ x0.now = x1.now ∧ x0.draw = x1.draw ∧ q36a_31 ∧ x0.u = x1.u ∧
  x0.t = x1.t ∧ (true && true && true) = true
@[reducible] noncomputable def q36a_43 : O := iO .i64 (0 : Int)
@[reducible] def q36a_44 (x0 : PrR) (x1 : PrR) (x2 : PrR) : Prop := True ∧ q36a_6 ∧ True ∧ sw (q36a_7 x0) ((∃ (p_1 : PrR), ∃ (s_1 : Int), ∃ (k_1 : Nat), [q36a_16 x0, q36a_17, q36a_43] = q36a_19 p_1 s_1 k_1 ∧
  q36a_20 s_1 p_1 k_1) ∧ q36a_32 x1 x2) (q36a_42 x0 x2)
@[reducible] def q36a_45 : Prop := (0 : Int) ≤ (0 : Int) ∧ (0 : Int) < (↑(2 : Nat) : Int)
@[reducible] noncomputable def q36a_46 (x0 : PrR) : Bool := decide ((0 : Int) < q36a_3 x0)
@[reducible] def q36a_47 (x0 : PrR) (x1 : PrR) (x2 : PrR) : Prop := True ∧ q36a_45 ∧ True ∧ sw (q36a_46 x0) ((∃ (p_1 : PrR), ∃ (s_1 : Int), ∃ (k_1 : Nat), [q36a_16 x0, q36a_43, q36a_43] = q36a_19 p_1 s_1 k_1 ∧
  q36a_20 s_1 p_1 k_1) ∧ q36a_32 x1 x2) (q36a_42 x0 x2)
@[reducible] noncomputable def q36a_48 (x0 : AsR) : List O := [O.ptr 148 (iO .u64 x0.key :: iO .u32 x0.win :: iO .i64 x0.life :: iO .i64 x0.rto :: iO .i64 x0.tries :: iO .u32 x0.ltag :: iO .u8 x0.lch.t :: iO .u8 x0.lch.f :: O.d (D.ints IntKind.u8 x0.lch.v) :: iO .i64 x0.at_ :: iO .i64 x0.left :: O.d (D.v (Value.bool x0.set)) :: iO .i64 x0.st :: iO .u32 x0.mt :: iO .u32 x0.ms :: iO .u32 x0.pt :: iO .u32 x0.ps :: q36a_11)]
@[reducible] noncomputable def q36a_49 (x0 : AsR) : List O := [O.ptr 152 [iO .u64 x0.key, iO .u32 x0.win, iO .i64 x0.life, iO .i64 x0.rto, iO .i64 x0.tries, iO .i64 x0.st, iO .u32 x0.mt, iO .u32 x0.pt, iO .u32 x0.ms, iO .u32 x0.ps, iO .u32 x0.ltag, iO .u8 x0.lch.t, iO .u8 x0.lch.f, O.d (D.ints IntKind.u8 x0.lch.v), O.d (D.v (Value.bool x0.set)), iO .i64 x0.at_, iO .i64 x0.left, O.any, O.any]]
@[reducible] noncomputable def q36a_50 (x0 : AsR × OutR) : O := O.ptr 152 [iO .u64 x0.fst.key, iO .u32 x0.fst.win, iO .i64 x0.fst.life, iO .i64 x0.fst.rto, iO .i64 x0.fst.tries, iO .i64 x0.fst.st, iO .u32 x0.fst.mt, iO .u32 x0.fst.pt, iO .u32 x0.fst.ms, iO .u32 x0.fst.ps, iO .u32 x0.fst.ltag, iO .u8 x0.fst.lch.t, iO .u8 x0.fst.lch.f, O.d (D.ints IntKind.u8 x0.fst.lch.v), O.d (D.v (Value.bool x0.fst.set)), iO .i64 x0.fst.at_, iO .i64 x0.fst.left, O.any, O.any]
@[reducible] noncomputable def q36a_51 (x0 : AsR × OutR) : O := O.ptr 148 (iO .u64 x0.fst.key :: iO .u32 x0.fst.win :: iO .i64 x0.fst.life :: iO .i64 x0.fst.rto :: iO .i64 x0.fst.tries :: iO .u32 x0.fst.ltag :: iO .u8 x0.fst.lch.t :: iO .u8 x0.fst.lch.f :: O.d (D.ints IntKind.u8 x0.fst.lch.v) :: iO .i64 x0.fst.at_ :: iO .i64 x0.fst.left :: O.d (D.v (Value.bool x0.fst.set)) :: iO .i64 x0.fst.st :: iO .u32 x0.fst.mt :: iO .u32 x0.fst.ms :: iO .u32 x0.fst.pt :: iO .u32 x0.fst.ps :: q36a_11)
@[reducible] noncomputable def q36a_52 (x0 : AsR × OutR) : O := O.agg [O.d (D.recs 4 x0.snd.pk.length (ltrCell x0.snd.pk)), O.d (D.ints IntKind.i64 x0.snd.ev)]
@[reducible] noncomputable def q36a_53 (x0 : OutR) : O := O.agg [O.d (D.recs 4 x0.pk.length (ltrCell x0.pk)), O.d (D.ints IntKind.i64 x0.ev)]
@[reducible] noncomputable def q36a_54 (x0 : PrR) (x1 : D) (x2 : D) (x3 : Int) (x4 : OutR) : List O := [O.ptr 59 (q36a_9 x0 :: q36a_10 x0 :: q36a_12 x0 :: q36a_13 x0 :: O.own 150 x1 :: O.own 150 x2 :: q36a_14 x0), q36a_18 x3, q36a_53 x4, q36a_53 x4]
@[reducible] def q36a_55 (x0 : PrR) (x1 : PrR) : Prop := x0.a.key = x1.a.key ∧ x0.a.win = x1.a.win ∧ x0.a.life = x1.a.life ∧ x0.a.rto = x1.a.rto ∧ x0.a.tries = x1.a.tries ∧
  x0.a.st = x1.a.st ∧ x0.a.mt = x1.a.mt ∧ x0.a.pt = x1.a.pt ∧ x0.a.ms = x1.a.ms ∧ x0.a.ps = x1.a.ps ∧ x0.a.ltag = x1.a.ltag ∧ q36a_21 x0 x1 ∧ q36a_22 x0 x1 ∧
  q36a_23 x0 x1 ∧ x0.a.set = x1.a.set ∧ x0.a.at_ = x1.a.at_ ∧ x0.a.left = x1.a.left ∧ x0.b.key = x1.b.key ∧ x0.b.win = x1.b.win ∧ x0.b.life = x1.b.life ∧
  x0.b.rto = x1.b.rto ∧ x0.b.tries = x1.b.tries ∧ x0.b.st = x1.b.st ∧ x0.b.mt = x1.b.mt ∧ x0.b.pt = x1.b.pt ∧ x0.b.ms = x1.b.ms ∧ x0.b.ps = x1.b.ps ∧ x0.b.ltag = x1.b.ltag ∧
  q36a_24 x0 x1 ∧ q36a_25 x0 x1 ∧ q36a_26 x0 x1 ∧ x0.b.set = x1.b.set ∧ x0.b.at_ = x1.b.at_ ∧ x0.b.left = x1.b.left ∧ x0.a.key = x1.a.key ∧ x0.a.win = x1.a.win ∧
  x0.a.life = x1.a.life ∧ x0.a.rto = x1.a.rto ∧ x0.a.tries = x1.a.tries ∧ x0.a.ltag = x1.a.ltag ∧ q36a_21 x0 x1 ∧ q36a_22 x0 x1 ∧ q36a_23 x0 x1 ∧ x0.a.at_ = x1.a.at_ ∧
  x0.a.left = x1.a.left ∧ x0.a.set = x1.a.set ∧ x0.a.st = x1.a.st ∧ x0.a.mt = x1.a.mt ∧ x0.a.ms = x1.a.ms ∧ x0.a.pt = x1.a.pt ∧ x0.a.ps = x1.a.ps ∧ q36a_27 ∧
  q36a_28 ∧ x0.b.key = x1.b.key ∧ x0.b.win = x1.b.win ∧ x0.b.life = x1.b.life ∧ x0.b.rto = x1.b.rto ∧ x0.b.tries = x1.b.tries ∧ x0.b.ltag = x1.b.ltag ∧ q36a_24 x0 x1 ∧
  q36a_25 x0 x1 ∧ q36a_26 x0 x1 ∧ x0.b.at_ = x1.b.at_ ∧ x0.b.left = x1.b.left ∧ x0.b.set = x1.b.set ∧ x0.b.st = x1.b.st ∧ x0.b.mt = x1.b.mt ∧ x0.b.ms = x1.b.ms ∧
  x0.b.pt = x1.b.pt ∧ x0.b.ps = x1.b.ps ∧ q36a_27 ∧ q36a_28 ∧ q36a_29 x0 x1 ∧ q36a_30 x0 x1 ∧ x0.now = x1.now ∧ x0.draw = x1.draw ∧ q36a_31 ∧ x0.u = x1.u ∧
  x0.t = x1.t ∧ (true && true && true) = true
@[reducible] def q36a_56 (x0 : PrR) (x1 : AsR × OutR) (x2 : PrR) (x3 : PrR) : Prop := True ∧ True ∧ True ∧ True ∧ True ∧ True ∧ True ∧ True ∧ q36a_6 ∧ q36a_6 ∧
  ((∃ (s_1 : AsR), [q36a_13 x0] = q36a_48 s_1 ∧ okAs s_1) ∧ ((∃ (s_1 : AsR), [q36a_10 x0] = q36a_49 s_1 ∧ okAs s_1) ∧ ((∃ (p_1 : PrR), ∃ (s_1 : Int), ∃ (o : OutR), ∃ (A : D), ∃ (B : D), [O.ptr 59 (q36a_9 x0 :: q36a_50 x1 :: q36a_12 x0 :: q36a_51 x1 :: q36a_15 x0), q36a_17, q36a_52 x1, q36a_52 x1] = q36a_54 p_1 A B s_1 o ∧
  (s_1 = (0 : Int) ∨ s_1 = (1 : Int)) ∧ asLt A p_1.v ∧ asLt B p_1.w ∧ okP (2000 : Nat) p_1 ∧ okO o) ∧ q36a_55 x2 x3) ∧ True) ∧ True) ∧ True
@[reducible] def q36a_57 (x0 : PrR) (x1 : AsR × OutR) (x2 : PrR) (x3 : PrR) : Prop := True ∧ True ∧ True ∧ True ∧ True ∧ True ∧ True ∧ True ∧ q36a_45 ∧
  q36a_45 ∧ ((∃ (s_1 : AsR), [q36a_12 x0] = q36a_48 s_1 ∧ okAs s_1) ∧ ((∃ (s_1 : AsR), [q36a_9 x0] = q36a_49 s_1 ∧ okAs s_1) ∧ ((∃ (p_1 : PrR), ∃ (s_1 : Int), ∃ (o : OutR), ∃ (A : D), ∃ (B : D), [O.ptr 59 (q36a_50 x1 :: q36a_10 x0 :: q36a_51 x1 :: q36a_13 x0 :: q36a_15 x0), q36a_43, q36a_52 x1, q36a_52 x1] = q36a_54 p_1 A B s_1 o ∧
  (s_1 = (0 : Int) ∨ s_1 = (1 : Int)) ∧ asLt A p_1.v ∧ asLt B p_1.w ∧ okP (2000 : Nat) p_1 ∧ okO o) ∧ q36a_55 x2 x3) ∧ True) ∧ True) ∧ True
@[reducible] def q36a_58 (x0 : PrR) : Prop := ∃ (k_1 : Int), ∃ (l : Int), ∃ (r : Int), ∃ (t : Int), [iO .u64 (IntKind.u64.wrap (IntKind.u64.wrap (IntKind.u32.wrap (IntKind.u32.wrap (x0.draw + (1 : Int)) * (2654435769 : Int))) * (2 : Int) ^ min (Int.toNat (32 : Int)) IntKind.u64.bits)), iO .i64 (200 : Int), iO .i64 (12 : Int), iO .i64 (8 : Int)] = [iO .u64 k_1, q36a_18 l, q36a_18 r, q36a_18 t] ∧
  ((1 : Int) ≤ l ∧ l ≤ (1048576 : Int)) ∧ ((1 : Int) ≤ r ∧ r ≤ (1048576 : Int)) ∧ (0 : Int) ≤ t ∧ t ≤ (100 : Int)
@[reducible] def q36a_63 (x0 : PrR) (x1 : PrR) (x2 : AsR) : Prop := True ∧ True ∧ True ∧ True ∧ True ∧ True ∧ True ∧ True ∧ True ∧ (True ∧ True ∧ (0 : Int) ≤ (32 : Int) ∧
  (q36a_58 x0 ∧ q36a_6 ∧ (q36a_6 ∧ (x0.a.key = x1.a.key ∧ x0.a.win = x1.a.win ∧ x0.a.life = x1.a.life ∧ x0.a.rto = x1.a.rto ∧ x0.a.tries = x1.a.tries ∧ x0.a.st = x1.a.st ∧
  x0.a.mt = x1.a.mt ∧ x0.a.pt = x1.a.pt ∧ x0.a.ms = x1.a.ms ∧ x0.a.ps = x1.a.ps ∧ x0.a.ltag = x1.a.ltag ∧ q36a_21 x0 x1 ∧ q36a_22 x0 x1 ∧ q36a_23 x0 x1 ∧
  x0.a.set = x1.a.set ∧ x0.a.at_ = x1.a.at_ ∧ x0.a.left = x1.a.left ∧ x2.key = x1.b.key ∧ x2.win = x1.b.win ∧ x2.life = x1.b.life ∧ x2.rto = x1.b.rto ∧ x2.tries = x1.b.tries ∧
  x2.st = x1.b.st ∧ x2.mt = x1.b.mt ∧ x2.pt = x1.b.pt ∧ x2.ms = x1.b.ms ∧ x2.ps = x1.b.ps ∧ x2.ltag = x1.b.ltag ∧ x2.lch.t = x1.b.lch.t ∧ x2.lch.f = x1.b.lch.f ∧
  x2.lch.v = x1.b.lch.v ∧ x2.set = x1.b.set ∧ x2.at_ = x1.b.at_ ∧ x2.left = x1.b.left ∧ x0.a.key = x1.a.key ∧ x0.a.win = x1.a.win ∧ x0.a.life = x1.a.life ∧
  x0.a.rto = x1.a.rto ∧ x0.a.tries = x1.a.tries ∧ x0.a.ltag = x1.a.ltag ∧ q36a_21 x0 x1 ∧ q36a_22 x0 x1 ∧ q36a_23 x0 x1 ∧ x0.a.at_ = x1.a.at_ ∧ x0.a.left = x1.a.left ∧
  x0.a.set = x1.a.set ∧ x0.a.st = x1.a.st ∧ x0.a.mt = x1.a.mt ∧ x0.a.ms = x1.a.ms ∧ x0.a.pt = x1.a.pt ∧ x0.a.ps = x1.a.ps ∧ q36a_27 ∧ q36a_28 ∧ x2.key = x1.b.key ∧
  x2.win = x1.b.win ∧ x2.life = x1.b.life ∧ x2.rto = x1.b.rto ∧ x2.tries = x1.b.tries ∧ x2.ltag = x1.b.ltag ∧ x2.lch.t = x1.b.lch.t ∧ x2.lch.f = x1.b.lch.f ∧
  x2.lch.v = x1.b.lch.v ∧ x2.at_ = x1.b.at_ ∧ x2.left = x1.b.left ∧ x2.set = x1.b.set ∧ x2.st = x1.b.st ∧ x2.mt = x1.b.mt ∧ x2.ms = x1.b.ms ∧ x2.pt = x1.b.pt ∧
  x2.ps = x1.b.ps ∧ q36a_27 ∧ q36a_28 ∧ q36a_29 x0 x1 ∧ q36a_30 x0 x1 ∧ x0.now = x1.now ∧ IntKind.u32.wrap (x0.draw + (1 : Int)) = x1.draw ∧ q36a_31 ∧ x0.u = x1.u ∧
  x0.t = x1.t ∧ (true && true && true) = true) ∧
  True) ∧ True) ∧ True) ∧ True
@[reducible] def q36a_64 (x0 : PrR) (x1 : AsR) (x2 : PrR) : Prop := True ∧ True ∧ True ∧ True ∧ True ∧ True ∧ True ∧ True ∧ True ∧ (True ∧ True ∧ (0 : Int) ≤ (32 : Int) ∧
  (q36a_58 x0 ∧ q36a_45 ∧ (q36a_45 ∧ (x1.key = x2.a.key ∧ x1.win = x2.a.win ∧ x1.life = x2.a.life ∧ x1.rto = x2.a.rto ∧ x1.tries = x2.a.tries ∧ x1.st = x2.a.st ∧
  x1.mt = x2.a.mt ∧ x1.pt = x2.a.pt ∧ x1.ms = x2.a.ms ∧ x1.ps = x2.a.ps ∧ x1.ltag = x2.a.ltag ∧ x1.lch.t = x2.a.lch.t ∧ x1.lch.f = x2.a.lch.f ∧ x1.lch.v = x2.a.lch.v ∧
  x1.set = x2.a.set ∧ x1.at_ = x2.a.at_ ∧ x1.left = x2.a.left ∧ x0.b.key = x2.b.key ∧ x0.b.win = x2.b.win ∧ x0.b.life = x2.b.life ∧ x0.b.rto = x2.b.rto ∧
  x0.b.tries = x2.b.tries ∧ x0.b.st = x2.b.st ∧ x0.b.mt = x2.b.mt ∧ x0.b.pt = x2.b.pt ∧ x0.b.ms = x2.b.ms ∧ x0.b.ps = x2.b.ps ∧ x0.b.ltag = x2.b.ltag ∧ q36a_24 x0 x2 ∧
  q36a_25 x0 x2 ∧ q36a_26 x0 x2 ∧ x0.b.set = x2.b.set ∧ x0.b.at_ = x2.b.at_ ∧ x0.b.left = x2.b.left ∧ x1.key = x2.a.key ∧ x1.win = x2.a.win ∧ x1.life = x2.a.life ∧
  x1.rto = x2.a.rto ∧ x1.tries = x2.a.tries ∧ x1.ltag = x2.a.ltag ∧ x1.lch.t = x2.a.lch.t ∧ x1.lch.f = x2.a.lch.f ∧ x1.lch.v = x2.a.lch.v ∧ x1.at_ = x2.a.at_ ∧
  x1.left = x2.a.left ∧ x1.set = x2.a.set ∧ x1.st = x2.a.st ∧ x1.mt = x2.a.mt ∧ x1.ms = x2.a.ms ∧ x1.pt = x2.a.pt ∧ x1.ps = x2.a.ps ∧ q36a_27 ∧ q36a_28 ∧
  x0.b.key = x2.b.key ∧ x0.b.win = x2.b.win ∧ x0.b.life = x2.b.life ∧ x0.b.rto = x2.b.rto ∧ x0.b.tries = x2.b.tries ∧ x0.b.ltag = x2.b.ltag ∧ q36a_24 x0 x2 ∧
  q36a_25 x0 x2 ∧ q36a_26 x0 x2 ∧ x0.b.at_ = x2.b.at_ ∧ x0.b.left = x2.b.left ∧ x0.b.set = x2.b.set ∧ x0.b.st = x2.b.st ∧ x0.b.mt = x2.b.mt ∧ x0.b.ms = x2.b.ms ∧
  x0.b.pt = x2.b.pt ∧ x0.b.ps = x2.b.ps ∧ q36a_27 ∧ q36a_28 ∧ q36a_29 x0 x2 ∧ q36a_30 x0 x2 ∧ x0.now = x2.now ∧ IntKind.u32.wrap (x0.draw + (1 : Int)) = x2.draw ∧
  q36a_31 ∧ x0.u = x2.u ∧ x0.t = x2.t ∧ (true && true && true) = true) ∧
  True) ∧ True) ∧ True) ∧ True
set_option maxHeartbeats 4000000 in
theorem vc36a : ∀ (p : PrR), have y := q36a_0 p; have y_1 := q36a_1 p; have y_2 := delF (q36a_2 p y y_1) (0 : Int) (Int.toNat (0 : Int)); have y_3 := delF (q36a_2 p y y_1) (1 : Int) (Int.toNat (0 : Int));
  ∀ (s k : Int), have y_4 := moveF (q36a_2 p y y_1) (MvR.mk (1 : Int) s k); have y_5 := delF (q36a_2 p y y_1) (0 : Int) (k.tmod (q36a_3 p)).toNat; have y_6 := delF (q36a_2 p y y_1) (1 : Int) (k.tmod (q36a_4 p)).toNat;
  okP (1900 : Nat) p → (2 : Int) ≠ (0 : Int) ∧ True ∧ sw (q36a_5 s) (q36a_6 ∧ True ∧ sw (q36a_7 p) (True ∧ sw (q36a_8 k) (q36a_6 ∧ q36a_4 p ≠ (0 : Int) ∧
  True ∧ q36a_6 ∧ True ∧ sw (q36a_7 p) ((∃ (p_1 : PrR), ∃ (s_1 : Int), ∃ (k_1 : Nat), [q36a_16 p, q36a_17, iO .i64 (k.tmod (q36a_4 p))] = q36a_19 p_1 s_1 k_1 ∧
  q36a_20 s_1 p_1 k_1) ∧ q36a_32 y_6 y_4) (q36a_42 p y_4)) (q36a_44 p y_3 y_4)) (q36a_44 p y_3 y_4)) (q36a_45 ∧ True ∧ sw (q36a_46 p) (True ∧ sw (q36a_8 k) (q36a_45 ∧
  q36a_3 p ≠ (0 : Int) ∧ True ∧ q36a_45 ∧ True ∧ sw (q36a_46 p) ((∃ (p_1 : PrR), ∃ (s_1 : Int), ∃ (k_1 : Nat), [q36a_16 p, q36a_43, iO .i64 (k.tmod (q36a_3 p))] = q36a_19 p_1 s_1 k_1 ∧
  q36a_20 s_1 p_1 k_1) ∧ q36a_32 y_5 y_4) (q36a_42 p y_4)) (q36a_47 p y_2 y_4)) (q36a_47 p y_2 y_4)) := by
  delta q36a_0 q36a_1 q36a_2 q36a_3 q36a_4 q36a_5 q36a_6 q36a_7 q36a_8 q36a_9 q36a_10 q36a_11 q36a_12 q36a_13 q36a_14 q36a_15 q36a_16 q36a_17 q36a_18
    q36a_19 q36a_20 q36a_21 q36a_22 q36a_23 q36a_24 q36a_25 q36a_26 q36a_27 q36a_28 q36a_29 q36a_30 q36a_31 q36a_32 q36a_42 q36a_43 q36a_44 q36a_45
    q36a_46 q36a_47 iO
  simp only [↓sw_iff, ↓Bool.not_eq_true', ↓Bool.not_eq_false', ↓Bool.and_eq_true, ↓decide_eq_true_eq, ↓decide_eq_false_iff_not, ltrsOf_ltrs, pr_eta']
  intro p s k hp
  have hn := hp.len
  unfold lenP at hn
  have lw : ∀ x, (putW p 1 (wayF p 1 ++ [x])).w.length = p.w.length + 1 := fun x => List.length_append
  have lv : ∀ x, (putW p 0 (wayF p 0 ++ [x])).v.length = p.v.length + 1 := fun x => List.length_append
  have nw : (0 : Int) < (p.w.length : Int) → 0 < k → 0 ≤ (k).tmod (p.w.length : Int) := fun h h1 => by have := (tmod_nat h h1).1; omega
  have nv : (0 : Int) < (p.v.length : Int) → 0 < k → 0 ≤ (k).tmod (p.v.length : Int) := fun h h1 => by have := (tmod_nat h h1).1; omega
  have tw : (0 : Int) < (p.w.length : Int) → 0 < k → ((k).tmod (p.w.length : Int)).toNat < p.w.length := fun h h1 => (tmod_nat h h1).2.1
  have tv : (0 : Int) < (p.v.length : Int) → 0 < k → ((k).tmod (p.v.length : Int)).toNat < p.v.length := fun h h1 => (tmod_nat h h1).2.1
  repeat' (first
    | (refine (show (_ = (moveF p ⟨1, s, k⟩).a.key) ∧ _ from ?_)
       (first | rw [mv_w (by assumption)] | rw [mv_v (by assumption)])
       (try (first | rw [kF_mod (by assumption) (by assumption)] | rw [kF_0 (by assumption)] | rw [kF_0' (by assumption)] | rw [kF_mod (by omega) (by omega)] | rw [kF_0 (by omega)]))
       (first | rw [ms1 (by assumption)] | rw [ms1' (by assumption)])
       repeat' (first | exact rfl | exact trivial | omega | exact List.length_append.symm | (intro i hi j hj; exact rfl) | exact (lw _).symm | exact (lv _).symm | exact wo_len p.w 0 (by omega) | exact wo_len p.v 0 (by omega) | exact wo_len p.w _ (tw (by omega) (by omega)) | exact wo_len p.v _ (tv (by omega) (by omega)) | (intro i hi j hj; first | exact wayD_at p.w 0 i j (by omega) | exact wayD_at p.v 0 i j (by omega) | exact wayD_at p.w _ i j (tw (by omega) (by omega)) | exact wayD_at p.v _ i j (tv (by omega) (by omega)) | exact ltr_snoc p.w _ i j (by omega) hj | exact ltr_snoc p.v _ i j (by omega) hj) | (intro i hi j hj; exact ltr_app _ _ i j) | apply And.intro))
    | exact del_pre1 hp (.inr rfl) (by assumption) (by assumption)
    | exact del_pre1 hp (.inl rfl) (by assumption) (by assumption)
    | exact del_pre0 hp (.inr rfl) (by assumption)
    | exact del_pre0 hp (.inl rfl) (by assumption)
    | exact .inr rfl
    | refine .inr ?_
    | exact rfl | exact trivial | omega | exact nw (by omega) (by omega) | exact nv (by omega) (by omega) | (have h1 := tw (by omega) (by omega); omega) | (have h1 := tv (by omega) (by omega); omega) | apply And.intro | intro _)
-- a

set_option maxHeartbeats 4000000 in
theorem vc36h : ∀ (p : PrR), have y := abortA p.a; have y_1 := abortA p.b; have y_2 := q36a_1 p; have y_3 := q36a_0 p; have y_4 := ltrsOf (D.recs 4 y_1.snd.pk.length (ltrCell y_1.snd.pk));
  have y_5 := ltrsOf (D.recs 4 y.snd.pk.length (ltrCell y.snd.pk)); have y_6 := saidF (PrR.mk y.fst p.b y_3 y_2 p.now p.draw p.u p.t) (0 : Int) (OutR.mk y_5 y.snd.ev);
  have y_7 := saidF (PrR.mk p.a y_1.fst y_3 y_2 p.now p.draw p.u p.t) (1 : Int) (OutR.mk y_4 y_1.snd.ev); ∀ (s k : Int), have y_8 := moveF (q36a_2 p y_3 y_2) (MvR.mk (8 : Int) s k);
  okP (1900 : Nat) p → (2 : Int) ≠ (0 : Int) ∧ True ∧ sw (q36a_5 s) (q36a_6 ∧ True ∧ sw (q36a_7 p) (True ∧ sw (q36a_8 k) (q36a_6 ∧ q36a_4 p ≠ (0 : Int) ∧
  q36a_56 p y_1 y_7 y_8) (q36a_56 p y_1 y_7 y_8)) (q36a_56 p y_1 y_7 y_8)) (q36a_45 ∧ True ∧ sw (q36a_46 p) (True ∧ sw (q36a_8 k) (q36a_45 ∧ q36a_3 p ≠ (0 : Int) ∧
  q36a_57 p y y_6 y_8) (q36a_57 p y y_6 y_8)) (q36a_57 p y y_6 y_8)) := by
  delta q36a_0 q36a_1 q36a_2 q36a_3 q36a_4 q36a_5 q36a_6 q36a_7 q36a_8 q36a_9 q36a_10 q36a_11 q36a_12 q36a_13 q36a_14 q36a_15 q36a_17 q36a_18 q36a_21
    q36a_22 q36a_23 q36a_24 q36a_25 q36a_26 q36a_27 q36a_28 q36a_29 q36a_30 q36a_31 q36a_43 q36a_45 q36a_46 q36a_48 q36a_49 q36a_50 q36a_51 q36a_52
    q36a_53 q36a_54 q36a_55 q36a_56 q36a_57 iO
  simp only [↓sw_iff, ↓Bool.not_eq_true', ↓Bool.not_eq_false', ↓Bool.and_eq_true, ↓decide_eq_true_eq, ↓decide_eq_false_iff_not, ltrsOf_ltrs, pr_eta', out_eta]
  intro p s k hp
  have hn := hp.len
  unfold lenP at hn
  have lw : ∀ x, (putW p 1 (wayF p 1 ++ [x])).w.length = p.w.length + 1 := fun x => List.length_append
  have lv : ∀ x, (putW p 0 (wayF p 0 ++ [x])).v.length = p.v.length + 1 := fun x => List.length_append
  have nw : (0 : Int) < (p.w.length : Int) → 0 < k → 0 ≤ (k).tmod (p.w.length : Int) := fun h h1 => by have := (tmod_nat h h1).1; omega
  have nv : (0 : Int) < (p.v.length : Int) → 0 < k → 0 ≤ (k).tmod (p.v.length : Int) := fun h h1 => by have := (tmod_nat h h1).1; omega
  have tw : (0 : Int) < (p.w.length : Int) → 0 < k → ((k).tmod (p.w.length : Int)).toNat < p.w.length := fun h h1 => (tmod_nat h h1).2.1
  have tv : (0 : Int) < (p.v.length : Int) → 0 < k → ((k).tmod (p.v.length : Int)).toNat < p.v.length := fun h h1 => (tmod_nat h h1).2.1
  repeat' (first
    | (refine (show (_ = (moveF p ⟨8, s, k⟩).a.key) ∧ _ from ?_)
       (first | rw [mv_w (by assumption)] | rw [mv_v (by assumption)])
       (try (first | rw [kF_mod (by assumption) (by assumption)] | rw [kF_0 (by assumption)] | rw [kF_0' (by assumption)] | rw [kF_mod (by omega) (by omega)] | rw [kF_0 (by omega)]))
       rw [ms8]
       repeat' (first | exact rfl | exact trivial | omega | exact List.length_append.symm | (intro i hi j hj; exact rfl) | exact (lw _).symm | exact (lv _).symm | exact wo_len p.w 0 (by omega) | exact wo_len p.v 0 (by omega) | exact wo_len p.w _ (tw (by omega) (by omega)) | exact wo_len p.v _ (tv (by omega) (by omega)) | (intro i hi j hj; first | exact wayD_at p.w 0 i j (by omega) | exact wayD_at p.v 0 i j (by omega) | exact wayD_at p.w _ i j (tw (by omega) (by omega)) | exact wayD_at p.v _ i j (tv (by omega) (by omega)) | exact ltr_snoc p.w _ i j (by omega) hj | exact ltr_snoc p.v _ i j (by omega) hj) | (intro i hi j hj; exact ltr_app _ _ i j) | apply And.intro))
    | exact ⟨p.b, rfl, hp.b⟩
    | exact said_pre (putS p 1 (abortA p.b).1) (.inr rfl) (abort_mid hp 1)
    | exact ⟨p.a, rfl, hp.a⟩
    | exact said_pre (putS p 0 (abortA p.a).1) (.inl rfl) (abort_mid hp 0)
    | exact .inr rfl
    | refine .inr ?_
    | exact rfl | exact trivial | omega | exact nw (by omega) (by omega) | exact nv (by omega) (by omega) | (have h1 := tw (by omega) (by omega); omega) | (have h1 := tv (by omega) (by omega); omega) | apply And.intro | intro _)
-- h

set_option maxHeartbeats 4000000 in
theorem vc36i : ∀ (p : PrR), have y := q36a_1 p; have y_1 := q36a_0 p; have y_2 := newG (IntKind.u64.wrap (IntKind.u64.wrap (IntKind.u32.wrap (IntKind.u32.wrap (p.draw + (1 : Int)) * (2654435769 : Int))) * (2 : Int) ^ min (Int.toNat (32 : Int)) IntKind.u64.bits)) (200 : Int) (12 : Int) (8 : Int);
  ∀ (s k : Int), have y_3 := moveF (q36a_2 p y_1 y) (MvR.mk (9 : Int) s k); okP (1900 : Nat) p → (2 : Int) ≠ (0 : Int) ∧ True ∧ sw (q36a_5 s) (q36a_6 ∧ True ∧
  sw (q36a_7 p) (True ∧ sw (q36a_8 k) (q36a_6 ∧ q36a_4 p ≠ (0 : Int) ∧ q36a_63 p y_3 y_2) (q36a_63 p y_3 y_2)) (q36a_63 p y_3 y_2)) (q36a_45 ∧ True ∧ sw (q36a_46 p) (True ∧
  sw (q36a_8 k) (q36a_45 ∧ q36a_3 p ≠ (0 : Int) ∧ q36a_64 p y_2 y_3) (q36a_64 p y_2 y_3)) (q36a_64 p y_2 y_3)) := by
  delta q36a_0 q36a_1 q36a_2 q36a_3 q36a_4 q36a_5 q36a_6 q36a_7 q36a_8 q36a_18 q36a_21 q36a_22 q36a_23 q36a_24 q36a_25 q36a_26 q36a_27 q36a_28 q36a_29
    q36a_30 q36a_31 q36a_45 q36a_46 q36a_58 q36a_63 q36a_64 iO
  simp only [↓sw_iff, ↓Bool.not_eq_true', ↓Bool.not_eq_false', ↓Bool.and_eq_true, ↓decide_eq_true_eq, ↓decide_eq_false_iff_not, ltrsOf_ltrs, pr_eta', wrap_nxt, wrap_dr]
  intro p s k hp
  have hn := hp.len
  unfold lenP at hn
  have lw : ∀ x, (putW p 1 (wayF p 1 ++ [x])).w.length = p.w.length + 1 := fun x => List.length_append
  have lv : ∀ x, (putW p 0 (wayF p 0 ++ [x])).v.length = p.v.length + 1 := fun x => List.length_append
  have nw : (0 : Int) < (p.w.length : Int) → 0 < k → 0 ≤ (k).tmod (p.w.length : Int) := fun h h1 => by have := (tmod_nat h h1).1; omega
  have nv : (0 : Int) < (p.v.length : Int) → 0 < k → 0 ≤ (k).tmod (p.v.length : Int) := fun h h1 => by have := (tmod_nat h h1).1; omega
  have tw : (0 : Int) < (p.w.length : Int) → 0 < k → ((k).tmod (p.w.length : Int)).toNat < p.w.length := fun h h1 => (tmod_nat h h1).2.1
  have tv : (0 : Int) < (p.v.length : Int) → 0 < k → ((k).tmod (p.v.length : Int)).toNat < p.v.length := fun h h1 => (tmod_nat h h1).2.1
  simp only [wrap_key9 (drF_ok _)]
  repeat' (first
    | (refine (show (_ = (moveF p ⟨9, s, k⟩).a.key) ∧ _ from ?_)
       (first | rw [mv_w (by assumption)] | rw [mv_v (by assumption)])
       (try (first | rw [kF_mod (by assumption) (by assumption)] | rw [kF_0 (by assumption)] | rw [kF_0' (by assumption)] | rw [kF_mod (by omega) (by omega)] | rw [kF_0 (by omega)]))
       rw [ms9]
       repeat' (first | exact rfl | exact trivial | omega | exact List.length_append.symm | (intro i hi j hj; exact rfl) | exact (lw _).symm | exact (lv _).symm | exact wo_len p.w 0 (by omega) | exact wo_len p.v 0 (by omega) | exact wo_len p.w _ (tw (by omega) (by omega)) | exact wo_len p.v _ (tv (by omega) (by omega)) | (intro i hi j hj; first | exact wayD_at p.w 0 i j (by omega) | exact wayD_at p.v 0 i j (by omega) | exact wayD_at p.w _ i j (tw (by omega) (by omega)) | exact wayD_at p.v _ i j (tv (by omega) (by omega)) | exact ltr_snoc p.w _ i j (by omega) hj | exact ltr_snoc p.v _ i j (by omega) hj) | (intro i hi j hj; exact ltr_app _ _ i j) | apply And.intro))
    | exact ⟨_, 200, 12, 8, rfl, by omega, by omega, by omega⟩
    | exact .inr rfl
    | refine .inr ?_
    | exact rfl | exact trivial | omega | exact nw (by omega) (by omega) | exact nv (by omega) (by omega) | (have h1 := tw (by omega) (by omega); omega) | (have h1 := tv (by omega) (by omega); omega) | apply And.intro | intro _)
-- i

end Go.ZR

set_option maxRecDepth 100000
namespace Go.ZM
open Go.Z Go.ZR
def mvCell (l : List MvR) (i j : Nat) : D :=
  match j with
  | 0 => .v (.int .i64 (l.getD i noMv).kind)
  | 1 => .v (.int .i64 (l.getD i noMv).s)
  | _ => .v (.int .i64 (l.getD i noMv).k)
def mvsOf : D → List MvR
  | .recs 3 n f => (List.range n).map fun i => ⟨vi (f i 0), vi (f i 1), vi (f i 2)⟩
  | _ => []
theorem mvsOf_mvs (l : List MvR) : mvsOf (.recs 3 l.length (mvCell l)) = l := range_getD l noMv
def roundN : Nat → PrR → PrR
  | 0, q => q
  | n + 1, q => roundF (roundN n q)
end Go.ZM
namespace Go.ZR
open Go.Z Go.ZM Go.Proofs
def mvsD (l : List MvR) : D := .recs 3 l.length (mvCell l)
def grownC : Ctr := { nC 1 false (fun a => ∃ l, a = [.d (mvsD l)] ∧ l.length ≤ 1073741824) (fun a => [prO (grownF (mvsOf (dO (at_ a 0))) (min 120 (mvsOf (dO (at_ a 0))).length))]) with ro := true }
def ansAC : Ctr := nC 0 false (fun a => a = []) fun _ => [bO true]
def calmC : Ctr := prC 1 (fun a => ∃ (p : PrR) (n : Nat), a = [prO p, iO .i64 (n : Int)] ∧ n ≤ 30 ∧ okP 500 p) (fun a => calmF (nO a 1).toNat (pO a)) fun _ => []
def blkP (q : PrR) : List OI := [.o (rfO q.a), .o (rfO q.b), .o (asO q.a), .o (asO q.b), .o (wyO q.v), .o (wyO q.w), .o (iO .i64 q.now), .o (iO .u32 q.draw), .o (bO false), .o (bO q.u), .o (bO q.t)]
def grA (l : List MvR) : LoopAnn where
  γ := Nat
  pre := fun i => i ≤ min 120 l.length
  μ := fun i => 120 - i
  items := fun i => [(4, .c (iO .i64 (i : Int))), (3, .blk (blkP (grownF l i)))]
def dayA (p : PrR) (n : Nat) : LoopAnn where
  γ := Nat
  pre := fun i => i ≤ n
  μ := fun i => n - i
  items := fun i => [(4, .c (iO .i64 (i : Int))), (0, .blk (blkP (calmF i p)))]
def loopA : LoopF := .fam PrR fun q =>
  { γ := Nat
    pre := fun j => j ≤ 400 ∧ loopF 400 q = loopF (400 - j) (roundN j q) ∧ okP 1000 (roundN j q)
    μ := fun j => 400 - j
    items := fun j => [(6, .c (iO .i64 (j : Int))), (0, .blk (blkP (roundN j q)))] }
def l8 : List (Nat × Ctr) := [(36, movC), (66, freshPC)]
def l9 : List (Nat × Ctr) := [(66, freshPC), (29, openRC asO outO), (35, stateC)]
def l10 : List (Nat × Ctr) := [(73, tickRC asO outO), (74, tickRC rfO outW), (31, saidC), (75, delC)]
end Go.ZR
