/- Part 19 of what the closing text rests on. -/
import Derived.Test.YtlbfenfepmmihaaI16
import Derived.Test.YtlbfenfepmmihaaRows
namespace Go.ZR
open Go.Proofs
open Go.Z Go.ZM Go.RowKit
set_option maxRecDepth 100000
theorem as_eta (s : AsR) : AsR.mk s.key s.win s.life s.rto s.tries s.ltag (ChR.mk s.lch.t s.lch.f s.lch.v) s.at_ s.left s.set s.st s.mt s.ms s.pt s.ps = s := rfl
theorem cells1 {F G : Nat → Nat → D} (h0 : F 0 0 = G 0 0) (h1 : F 0 1 = G 0 1) (h2 : F 0 2 = G 0 2) (h3 : F 0 3 = G 0 3) : ∀ i, i < 1 → ∀ j, j < 4 → F i j = G i j := by
  intro i hi j hj
  obtain rfl : i = 0 := by omega
  match j, hj with
  | 0, _ => exact h0
  | 1, _ => exact h1
  | 2, _ => exact h2
  | 3, _ => exact h3
theorem cells0 {F G : Nat → Nat → D} : ∀ i, i < 0 → ∀ j, j < 4 → F i j = G i j := fun _i hi => absurd hi (Nat.not_lt_zero _)
theorem size142 : Try.prog.types[(142 : Nat)].size = 4 := by kernel_rfl
theorem l1_ok : COk Try.prog (ctrs l1) := cok_cons ok155 (cok_cons ok158 (cok_cons ok160 (cok_cons ok204 (cok_cons ok209 (cok_cons ok82 (cok_cons ok163 cok_nil))))))
theorem wrap_rto {s : AsR} {w : Int} (hs : okAs s) (hw : okNow w) : IntKind.i64.wrap (w + s.rto) = w + s.rto := by
  have := hs.rto
  unfold okNow at hw
  exact wrap_i64_id (by omega) (by omega)
theorem wrap_left {s : AsR} (hs : okAs s) : IntKind.i64.wrap (s.left - 1) = s.left - 1 := by
  have := hs.left
  exact wrap_i64_id (by omega) (by omega)
theorem wrap_key (s : AsR) : IntKind.u64.wrap (s.key + 1) = (s.key + 1) % 18446744073709551616 := IntKind.wrap_u64 _
theorem sm_lch {s : AsR} (hs : okAs s) : sm s.lch.v.length := by have := hs.ltr.2.2; unfold sm; omega
theorem sm_nil : sm ([] : List Int).length := by simp [sm]
theorem hel_ok {s : AsR} (hs : okAs s) {t n : Int} (ht : okU t) (hn : okU n) : okHel ⟨t, s.win, 8, 8, n, []⟩ := by
  have := hs.win
  exact ⟨ht, this, by simp, by simp, hn, by simp [okB], by simp [sm]⟩
theorem hel_len (h : HelR) (b : Bool) : (fromHel h b).1.v.length ≤ 300 := fromHel_len h b
theorem sm_hel (h : HelR) (b : Bool) : sm (fromHel h b).1.v.length := by have := hel_len h b; unfold sm; omega
noncomputable def iAc67 : Code := match Try.f67.body with | some c => c | none => .skip
noncomputable def iA_67 : InlF := ⟨iAc67, Try.f67.ntmps, Try.f67.results.toList, anns []⟩
noncomputable def iAc68 : Code := match Try.f68.body with | some c => c | none => .skip
noncomputable def iA_68 : InlF := ⟨iAc68, Try.f68.ntmps, Try.f68.results.toList, anns [] [] [(4, 3)]⟩
noncomputable def iAc113 : Code := match Try.f113.body with | some c => c | none => .skip
noncomputable def iA_113 : InlF := ⟨iAc113, Try.f113.ntmps, Try.f113.results.toList, anns []⟩
noncomputable def iAc114 : Code := match Try.f114.body with | some c => c | none => .skip
noncomputable def iA_114 : InlF := ⟨iAc114, Try.f114.ntmps, Try.f114.results.toList, anns []⟩
noncomputable def iAc119 : Code := match Try.f119.body with | some c => c | none => .skip
noncomputable def iA_119 : InlF := ⟨iAc119, Try.f119.ntmps, Try.f119.results.toList, anns []⟩
noncomputable def iAc120 : Code := match Try.f120.body with | some c => c | none => .skip
noncomputable def iA_120 : InlF := ⟨iAc120, Try.f120.ntmps, Try.f120.results.toList, anns []⟩
noncomputable def iAc126 : Code := match Try.f126.body with | some c => c | none => .skip
noncomputable def iA_126 : InlF := ⟨iAc126, Try.f126.ntmps, Try.f126.results.toList, anns []⟩
noncomputable def iAc127 : Code := match Try.f127.body with | some c => c | none => .skip
noncomputable def iA_127 : InlF := ⟨iAc127, Try.f127.ntmps, Try.f127.results.toList, anns []⟩
noncomputable def iAc159 : Code := match Try.f159.body with | some c => c | none => .skip
noncomputable def iA_159 : InlF := ⟨iAc159, Try.f159.ntmps, Try.f159.results.toList, anns []⟩
noncomputable def iAc161 : Code := match Try.f161.body with | some c => c | none => .skip
noncomputable def iA_161 : InlF := ⟨iAc161, Try.f161.ntmps, Try.f161.results.toList, anns []⟩
noncomputable def iAc162 : Code := match Try.f162.body with | some c => c | none => .skip
noncomputable def iA_162 : InlF := ⟨iAc162, Try.f162.ntmps, Try.f162.results.toList, anns []⟩
noncomputable def iAc164 : Code := match Try.f164.body with | some c => c | none => .skip
noncomputable def iA_164 : InlF := ⟨iAc164, Try.f164.ntmps, Try.f164.results.toList, anns []⟩
noncomputable def iAc165 : Code := match Try.f165.body with | some c => c | none => .skip
noncomputable def iA_165 : InlF := ⟨iAc165, Try.f165.ntmps, Try.f165.results.toList, anns []⟩
noncomputable def iAc166 : Code := match Try.f166.body with | some c => c | none => .skip
noncomputable def iA_166 : InlF := ⟨iAc166, Try.f166.ntmps, Try.f166.results.toList, anns []⟩
noncomputable def iAc203 : Code := match Try.f203.body with | some c => c | none => .skip
noncomputable def iA_203 : InlF := ⟨iAc203, Try.f203.ntmps, Try.f203.results.toList, anns []⟩
noncomputable def iAc210 : Code := match Try.f210.body with | some c => c | none => .skip
noncomputable def iA_210 : InlF := ⟨iAc210, Try.f210.ntmps, Try.f210.results.toList, anns []⟩
noncomputable def iA : List (Nat × InlF) := [(67, iA_67), (68, iA_68), (113, iA_113), (114, iA_114), (119, iA_119), (120, iA_120), (126, iA_126), (127, iA_127), (159, iA_159), (161, iA_161), (162, iA_162), (164, iA_164), (165, iA_165), (166, iA_166), (203, iA_203), (210, iA_210)]
theorem iA_ok : InlsOk Try.prog iA := ⟨inlOk Try.func67 (by kernel_rfl) (by kernel_rfl), inlOk Try.func68 (by kernel_rfl) (by kernel_rfl), inlOk Try.func113 (by kernel_rfl) (by kernel_rfl), inlOk Try.func114 (by kernel_rfl) (by kernel_rfl), inlOk Try.func119 (by kernel_rfl) (by kernel_rfl), inlOk Try.func120 (by kernel_rfl) (by kernel_rfl), inlOk Try.func126 (by kernel_rfl) (by kernel_rfl), inlOk Try.func127 (by kernel_rfl) (by kernel_rfl), inlOk Try.func159 (by kernel_rfl) (by kernel_rfl), inlOk Try.func161 (by kernel_rfl) (by kernel_rfl), inlOk Try.func162 (by kernel_rfl) (by kernel_rfl), inlOk Try.func164 (by kernel_rfl) (by kernel_rfl), inlOk Try.func165 (by kernel_rfl) (by kernel_rfl), inlOk Try.func166 (by kernel_rfl) (by kernel_rfl), inlOk Try.func203 (by kernel_rfl) (by kernel_rfl), inlOk Try.func210 (by kernel_rfl) (by kernel_rfl), trivial⟩
noncomputable def code29 : Code := match Try.f29.body with | some c => c | none => .skip
@[reducible] noncomputable def q29_0 (x0 : AsR) : AsR := AsR.mk x0.key x0.win x0.life x0.rto x0.tries x0.ltag (ChR.mk x0.lch.t x0.lch.f x0.lch.v) x0.at_ x0.left x0.set x0.st x0.mt x0.ms x0.pt x0.ps
@[reducible] noncomputable def q29_1 (x0 : AsR) (x1 : Int) (x2 : Int) (x3 : Int) : AsR := (openA (q29_0 x0) x1 x2 x3).fst
@[reducible] def q29_2 : Prop := (0 : Nat) = (0 : Nat)
@[reducible] noncomputable def q29_3 (x0 : Nat) (x1 : Nat) : D := match x0 with | (0 : Nat) => D.v (Value.int IntKind.u32 (noOut.pk.getD x1 noLtr).tag) | (1 : Nat) => D.v (Value.int IntKind.u8 (noOut.pk.getD x1 noLtr).ch.t) | (2 : Nat) => D.v (Value.int IntKind.u8 (noOut.pk.getD x1 noLtr).ch.f) | _x => D.ints IntKind.u8 (noOut.pk.getD x1 noLtr).ch.v
@[reducible] def q29_4 : Prop := q29_2 ∧ ∀ (i : Nat), i < (0 : Nat) → ∀ (j : Nat), j < (4 : Nat) → q29_3 j i = q29_3 j i
@[reducible] def q29_5 : Prop := noOut.ev = noOut.ev
@[reducible] def q29_8 : Prop := (true && true && true) = true
@[reducible] def q29_9 (x0 : Int) (x1 : AsR) (x2 : Int) : Prop := ∃ (h : HelR), ∃ (b : Bool), [O.agg [iO .u32 x0, iO .u32 x1.win, iO .u16 (8 : Int), iO .u16 (8 : Int), iO .u32 x2, O.d (D.ints IntKind.u8 [])], O.d (D.v (Value.bool false))] = [O.agg [iO .u32 h.tag, iO .u32 h.win, iO .u16 h.out, iO .u16 h.inn, iO .u32 h.tsn, O.d (D.ints IntKind.u8 h.cookie)], O.d (D.v (Value.bool b))] ∧
  okHel h
@[reducible] def q29_10 : Prop := (0 : Int) ≤ (0 : Int) ∧ (0 : Int) < (↑(1 : Nat) : Int)
@[reducible] noncomputable def q29_11 (x0 : Nat) (x1 : Nat) : Bool := x0.beq (Int.toNat (0 : Int)) && Nat.ble (3 : Nat) x1 && x1.blt (4 : Nat)
@[reducible] noncomputable def q29_13 (x0 : Nat) : Nat := (x0 - (0 : Nat)) * Try.prog.types[142].size
@[reducible] noncomputable def q29_14 (x0 : Int) (x1 : AsR) (x2 : Int) (x3 : Nat) (x4 : Nat) : D := [D.v (Value.int IntKind.u32 (0 : Int)), D.v (Value.int IntKind.u8 (fromHel (HelR.mk x0 x1.win (8 : Int) (8 : Int) x2 []) false).fst.t), D.v (Value.int IntKind.u8 (fromHel (HelR.mk x0 x1.win (8 : Int) (8 : Int) x2 []) false).fst.f), D.ints IntKind.u8 (fromHel (HelR.mk x0 x1.win (8 : Int) (8 : Int) x2 []) false).fst.v].getD (q29_13 x3 + x4) (D.v undef)
@[reducible] def q29_15 (x0 : Int) (x1 : AsR) (x2 : Int) (x3 : Int) : Prop := (True ∧ (((True ∧ (40 : Nat) ≤ (140737488355328 : Nat) ∧ (True ∧ q29_10 ∧ ((∃ (l : List Int), [O.d (D.ints IntKind.u8 (fromHel (HelR.mk x0 x1.win (8 : Int) (8 : Int) x2 []) false).fst.v)] = [O.d (D.ints IntKind.u8 l)] ∧ sm l.length) ∧ q29_10 ∧ (True ∧ True ∧ x1.key = (q29_1 x1 x0 x2 x3).key ∧ x1.win = (q29_1 x1 x0 x2 x3).win ∧ x1.life = (q29_1 x1 x0 x2 x3).life ∧ x1.rto = (q29_1 x1 x0 x2 x3).rto ∧ x1.tries = (q29_1 x1 x0 x2 x3).tries ∧ (0 : Int) = (q29_1 x1 x0 x2 x3).ltag ∧ (fromHel (HelR.mk x0 x1.win (8 : Int) (8 : Int) x2 []) false).fst.t = (q29_1 x1 x0 x2 x3).lch.t ∧ (fromHel (HelR.mk x0 x1.win (8 : Int) (8 : Int) x2 []) false).fst.f = (q29_1 x1 x0 x2 x3).lch.f ∧ (fromHel (HelR.mk x0 x1.win (8 : Int) (8 : Int) x2 []) false).fst.v = (q29_1 x1 x0 x2 x3).lch.v ∧ IntKind.i64.wrap (x3 + x1.rto) = (q29_1 x1 x0 x2 x3).at_ ∧ x1.tries = (q29_1 x1 x0 x2 x3).left ∧ true = (q29_1 x1 x0 x2 x3).set ∧ (1 : Int) = (q29_1 x1 x0 x2 x3).st ∧ x0 = (q29_1 x1 x0 x2 x3).mt ∧ x2 = (q29_1 x1 x0 x2 x3).ms ∧ (0 : Int) = (q29_1 x1 x0 x2 x3).pt ∧ (0 : Int) = (q29_1 x1 x0 x2 x3).ps ∧ q29_2 ∧ noOut.ev = [] ∧ ((1 : Nat) = (openA (q29_0 x1) x0 x2 x3).snd.fst.pk.length ∧ ∀ (i : Nat), i < (1 : Nat) → ∀ (j : Nat), j < (4 : Nat) → (bif q29_11 i j then [D.ints IntKind.u8 (fromHel (HelR.mk x0 x1.win (8 : Int) (8 : Int) x2 []) false).fst.v].getD (j - (3 : Nat)) (q29_14 x0 x1 x2 i j) else q29_14 x0 x1 x2 i j) = match j with | (0 : Nat) => D.v (Value.int IntKind.u32 ((openA (q29_0 x1) x0 x2 x3).snd.fst.pk.getD i noLtr).tag) | (1 : Nat) => D.v (Value.int IntKind.u8 ((openA (q29_0 x1) x0 x2 x3).snd.fst.pk.getD i noLtr).ch.t) | (2 : Nat) => D.v (Value.int IntKind.u8 ((openA (q29_0 x1) x0 x2 x3).snd.fst.pk.getD i noLtr).ch.f) | _x => D.ints IntKind.u8 ((openA (q29_0 x1) x0 x2 x3).snd.fst.pk.getD i noLtr).ch.v) ∧ noOut.ev = (openA (q29_0 x1) x0 x2 x3).snd.fst.ev ∧ (0 : Int) = (openA (q29_0 x1) x0 x2 x3).snd.snd ∧ (true && true && true) = true) ∧ True) ∧ True) ∧ True) ∧ True) ∧ True) ∧ True) ∧ True
@[reducible] noncomputable def q29_16 (x0 : AsR) : Bool := !!x0.set
@[reducible] def q29_17 (x0 : AsR) : Prop := [q29_16 x0] = [q29_16 x0]
@[reducible] noncomputable def q29_18 (x0 : AsR) (x1 : Int) : AsR := (tickA (q29_0 x0) x1).fst
@[reducible] noncomputable def q29_19 (x0 : Nat) (x1 : AsR) (x2 : Int) (x3 : Nat) : D := match x0 with | (0 : Nat) => D.v (Value.int IntKind.u32 ((tickA (q29_0 x1) x2).snd.pk.getD x3 noLtr).tag) | (1 : Nat) => D.v (Value.int IntKind.u8 ((tickA (q29_0 x1) x2).snd.pk.getD x3 noLtr).ch.t) | (2 : Nat) => D.v (Value.int IntKind.u8 ((tickA (q29_0 x1) x2).snd.pk.getD x3 noLtr).ch.f) | _x => D.ints IntKind.u8 ((tickA (q29_0 x1) x2).snd.pk.getD x3 noLtr).ch.v
@[reducible] noncomputable def q29_20 (x0 : AsR) (x1 : Nat) (x2 : Nat) : D := [D.v (Value.int IntKind.u32 x0.ltag), D.v (Value.int IntKind.u8 x0.lch.t), D.v (Value.int IntKind.u8 x0.lch.f), D.ints IntKind.u8 x0.lch.v].getD (q29_13 x1 + x2) (D.v undef)
@[reducible] noncomputable def q29_21 (x0 : AsR) (x1 : Int) (x2 : Bool) : AsR := (closeA (q29_0 x0) x1 x2).fst
@[reducible] def q29_22 : Prop := ∃ (l : List Int), [O.d (D.ints IntKind.u8 [])] = [O.d (D.ints IntKind.u8 l)] ∧ sm l.length
@[reducible] noncomputable def q29_23 : List D := [D.v (Value.int IntKind.u8 (0 : Int)), D.ints IntKind.u8 []]
@[reducible] noncomputable def q29_24 (x0 : Nat) (x1 : Nat) (x2 : AsR) : D := bif q29_11 x0 x1 then [D.ints IntKind.u8 []].getD (x1 - (3 : Nat)) ((D.v (Value.int IntKind.u32 x2.pt) :: D.v (Value.int IntKind.u8 (7 : Int)) :: q29_23).getD (q29_13 x0 + x1) (D.v undef)) else (D.v (Value.int IntKind.u32 x2.pt) :: D.v (Value.int IntKind.u8 (7 : Int)) :: q29_23).getD (q29_13 x0 + x1) (D.v undef)
@[reducible] noncomputable def q29_25 (x0 : Nat) (x1 : AsR) (x2 : Int) (x3 : Bool) (x4 : Nat) : D := match x0 with | (0 : Nat) => D.v (Value.int IntKind.u32 ((closeA (q29_0 x1) x2 x3).snd.fst.pk.getD x4 noLtr).tag) | (1 : Nat) => D.v (Value.int IntKind.u8 ((closeA (q29_0 x1) x2 x3).snd.fst.pk.getD x4 noLtr).ch.t) | (2 : Nat) => D.v (Value.int IntKind.u8 ((closeA (q29_0 x1) x2 x3).snd.fst.pk.getD x4 noLtr).ch.f) | _x => D.ints IntKind.u8 ((closeA (q29_0 x1) x2 x3).snd.fst.pk.getD x4 noLtr).ch.v
@[reducible] def q29_26 : Prop := (true && true && true) = true
@[reducible] noncomputable def q29_27 (x0 : AsR) (x1 : Int) : AsR := (drainA (q29_0 x0) x1).fst
@[reducible] noncomputable def q29_28 (x0 : Nat) (x1 : AsR) (x2 : Int) (x3 : Nat) : D := match x0 with | (0 : Nat) => D.v (Value.int IntKind.u32 ((drainA (q29_0 x1) x2).snd.pk.getD x3 noLtr).tag) | (1 : Nat) => D.v (Value.int IntKind.u8 ((drainA (q29_0 x1) x2).snd.pk.getD x3 noLtr).ch.t) | (2 : Nat) => D.v (Value.int IntKind.u8 ((drainA (q29_0 x1) x2).snd.pk.getD x3 noLtr).ch.f) | _x => D.ints IntKind.u8 ((drainA (q29_0 x1) x2).snd.pk.getD x3 noLtr).ch.v
@[reducible] noncomputable def q29_29 (x0 : AsR) : AsR := (abortA (q29_0 x0)).fst
@[reducible] noncomputable def q29_30 (x0 : Nat) (x1 : AsR) (x2 : Nat) : D := match x0 with | (0 : Nat) => D.v (Value.int IntKind.u32 ((abortA (q29_0 x1)).snd.pk.getD x2 noLtr).tag) | (1 : Nat) => D.v (Value.int IntKind.u8 ((abortA (q29_0 x1)).snd.pk.getD x2 noLtr).ch.t) | (2 : Nat) => D.v (Value.int IntKind.u8 ((abortA (q29_0 x1)).snd.pk.getD x2 noLtr).ch.f) | _x => D.ints IntKind.u8 ((abortA (q29_0 x1)).snd.pk.getD x2 noLtr).ch.v
set_option maxHeartbeats 4000000 in
theorem vc29 : ∀ (s : AsR) (t n w : Int), okAs s → okU t → okU n → okNow w → True ∧ sw (!decide (s.st = (0 : Int))) (s.key = (q29_1 s t n w).key ∧ s.win = (q29_1 s t n w).win ∧
  s.life = (q29_1 s t n w).life ∧ s.rto = (q29_1 s t n w).rto ∧ s.tries = (q29_1 s t n w).tries ∧ s.ltag = (q29_1 s t n w).ltag ∧ s.lch.t = (q29_1 s t n w).lch.t ∧
  s.lch.f = (q29_1 s t n w).lch.f ∧ s.lch.v = (q29_1 s t n w).lch.v ∧ s.at_ = (q29_1 s t n w).at_ ∧ s.left = (q29_1 s t n w).left ∧ s.set = (q29_1 s t n w).set ∧
  s.st = (q29_1 s t n w).st ∧ s.mt = (q29_1 s t n w).mt ∧ s.ms = (q29_1 s t n w).ms ∧ s.pt = (q29_1 s t n w).pt ∧ s.ps = (q29_1 s t n w).ps ∧ q29_4 ∧ q29_5 ∧
  (openA (q29_0 s) t n w).snd.fst.pk.length = (0 : Nat) ∧ (openA (q29_0 s) t n w).snd.fst.ev = [] ∧ (7 : Int) = (openA (q29_0 s) t n w).snd.snd ∧ q29_8) (True ∧
  sw (decide (t = (0 : Int))) (s.key = (q29_1 s t n w).key ∧ s.win = (q29_1 s t n w).win ∧ s.life = (q29_1 s t n w).life ∧ s.rto = (q29_1 s t n w).rto ∧ s.tries = (q29_1 s t n w).tries ∧
  s.ltag = (q29_1 s t n w).ltag ∧ s.lch.t = (q29_1 s t n w).lch.t ∧ s.lch.f = (q29_1 s t n w).lch.f ∧ s.lch.v = (q29_1 s t n w).lch.v ∧ s.at_ = (q29_1 s t n w).at_ ∧
  s.left = (q29_1 s t n w).left ∧ s.set = (q29_1 s t n w).set ∧ s.st = (q29_1 s t n w).st ∧ s.mt = (q29_1 s t n w).mt ∧ s.ms = (q29_1 s t n w).ms ∧ s.pt = (q29_1 s t n w).pt ∧
  s.ps = (q29_1 s t n w).ps ∧ q29_4 ∧ q29_5 ∧ (openA (q29_0 s) t n w).snd.fst.pk.length = (0 : Nat) ∧ (openA (q29_0 s) t n w).snd.fst.ev = [] ∧ (1 : Int) = (openA (q29_0 s) t n w).snd.snd ∧
  q29_8) ((q29_9 t s n ∧ q29_15 t s n w ∧ True) ∧ ((q29_9 t s n ∧ q29_15 t s n w) ∧ True) ∧ True)) := by
  delta q29_0 q29_1 q29_2 q29_3 q29_4 q29_5 q29_8 q29_9 q29_10 q29_11 q29_13 q29_14 q29_15 iO
  simp only [↓sw_iff, ↓Bool.and_eq_true, ↓decide_eq_true_eq, ↓decide_eq_false_iff_not, ↓Bool.not_eq_true', ↓Bool.not_eq_false', true_and, and_true, implies_true, as_eta, size142]
  intro s t n w hs ht hn hw
  simp only [wrap_rto hs hw]
  have hv := sm_lch hs
  refine ⟨fun h => ?_, fun h => ⟨fun h0 => ?_, fun h0 => ?_⟩⟩
  · have e : openA s t n w = (s, noOut, 7) := by
      unfold openA
      rw [if_pos h]
    rw [e]
    repeat' (first | exact rfl | exact cells1 rfl rfl rfl rfl | exact cells0 | omega | exact ⟨_, rfl, hv⟩ | exact ⟨_, rfl, sm_nil⟩ | exact ⟨_, _, rfl, hel_ok hs ht hn⟩ | exact ⟨_, rfl, sm_hel _ _⟩ | apply And.intro)
  · have e : openA s t n w = (s, noOut, 1) := by
      unfold openA
      rw [if_neg (by simpa using h), if_pos h0]
    rw [e]
    repeat' (first | exact rfl | exact cells1 rfl rfl rfl rfl | exact cells0 | omega | exact ⟨_, rfl, hv⟩ | exact ⟨_, rfl, sm_nil⟩ | exact ⟨_, _, rfl, hel_ok hs ht hn⟩ | exact ⟨_, rfl, sm_hel _ _⟩ | apply And.intro)
  · have e : openA s t n w = ((greetA { s with mt := t, ms := n } w).1, (greetA { s with mt := t, ms := n } w).2, 0) := by
      unfold openA
      rw [if_neg (by simpa using h), if_neg h0]
    rw [e]
    repeat' (first | exact rfl | exact cells1 rfl rfl rfl rfl | exact cells0 | omega | exact ⟨_, rfl, hv⟩ | exact ⟨_, rfl, sm_nil⟩ | exact ⟨_, _, rfl, hel_ok hs ht hn⟩ | exact ⟨_, rfl, sm_hel _ _⟩ | apply And.intro)
set_option maxRecDepth 100000 in
theorem ok29 : FnIs Try.prog 29 (openRC asO outO) := by
  refine fnIs (C := (ctrsJ Try.prog l1 iA 5)) (by kernel_rfl) (cokJ (by kernel_rfl) l1_ok iA_ok) Try.func29 (code := code29) (by kernel_rfl) (by kernel_rfl) ?_
  rintro a ⟨s, t, n, w, rfl, hs, ht, hn, hw⟩
  exact ⟨anns [], kcast (vc29 s t n w hs ht hn hw) (by kernel_rfl)⟩

noncomputable def code73 : Code := match Try.f73.body with | some c => c | none => .skip
set_option maxHeartbeats 4000000 in
theorem vc73 : ∀ (s : AsR) (w : Int), okAs s → okNow w → sw (q29_16 s) (SV.p (3 : Nat) (0 : Nat) = SV.p (3 : Nat) (0 : Nat)) True ∧ sw (q29_16 s) (q29_17 s ∧
  SV.p (3 : Nat) (0 : Nat) = SV.p (3 : Nat) (0 : Nat)) True ∧ sw (q29_16 s) (q29_17 s ∧ SV.p (3 : Nat) (5 : Nat) = SV.p (3 : Nat) (5 : Nat)) True ∧ sw (q29_16 s) (q29_17 s ∧
  SV.p (3 : Nat) (9 : Nat) = SV.p (3 : Nat) (9 : Nat)) True ∧ sw (q29_16 s) (q29_17 s ∧ SV.c (Value.int IntKind.i64 s.at_) = SV.c (Value.int IntKind.i64 s.at_)) True ∧
  sw (q29_16 s) (SV.c (Value.int IntKind.i64 w) = SV.c (Value.int IntKind.i64 w)) True ∧ sw (q29_16 s) (q29_17 s ∧ q29_17 s ∧ True ∧ SV.c (Value.bool (decide (w < s.at_))) = SV.c (Value.bool (decide (w < s.at_)))) True ∧
  q29_17 s ∧ sw (!s.set || decide (w < s.at_)) (s.key = (q29_18 s w).key ∧ s.win = (q29_18 s w).win ∧ s.life = (q29_18 s w).life ∧ s.rto = (q29_18 s w).rto ∧
  s.tries = (q29_18 s w).tries ∧ s.ltag = (q29_18 s w).ltag ∧ s.lch.t = (q29_18 s w).lch.t ∧ s.lch.f = (q29_18 s w).lch.f ∧ s.lch.v = (q29_18 s w).lch.v ∧
  s.at_ = (q29_18 s w).at_ ∧ s.left = (q29_18 s w).left ∧ s.set = (q29_18 s w).set ∧ s.st = (q29_18 s w).st ∧ s.mt = (q29_18 s w).mt ∧ s.ms = (q29_18 s w).ms ∧
  s.pt = (q29_18 s w).pt ∧ s.ps = (q29_18 s w).ps ∧ q29_4 ∧ q29_5 ∧ (tickA (q29_0 s) w).snd.pk.length = (0 : Nat) ∧ (tickA (q29_0 s) w).snd.ev = [] ∧ q29_8) (True ∧
  sw (decide (s.left = (0 : Int))) (True ∧ True ∧ (8 : Nat) ≤ (140737488355328 : Nat) ∧ True ∧ IntKind.u64.wrap (s.key + (1 : Int)) = (q29_18 s w).key ∧ s.win = (q29_18 s w).win ∧
  s.life = (q29_18 s w).life ∧ s.rto = (q29_18 s w).rto ∧ s.tries = (q29_18 s w).tries ∧ (0 : Int) = (q29_18 s w).ltag ∧ (0 : Int) = (q29_18 s w).lch.t ∧
  (0 : Int) = (q29_18 s w).lch.f ∧ (q29_18 s w).lch.v = [] ∧ (0 : Int) = (q29_18 s w).at_ ∧ (0 : Int) = (q29_18 s w).left ∧ false = (q29_18 s w).set ∧ (0 : Int) = (q29_18 s w).st ∧
  (0 : Int) = (q29_18 s w).mt ∧ (0 : Int) = (q29_18 s w).ms ∧ (0 : Int) = (q29_18 s w).pt ∧ (0 : Int) = (q29_18 s w).ps ∧ q29_2 ∧ noOut.ev = [] ∧ ((0 : Nat) = (tickA (q29_0 s) w).snd.pk.length ∧
  ∀ (i : Nat), i < (0 : Nat) → ∀ (j : Nat), j < (4 : Nat) → q29_3 j i = q29_19 j s w i) ∧ noOut.ev ++ [(3 : Int)] = (tickA (q29_0 s) w).snd.ev ∧ (true && true && true) = true) (True ∧
  True ∧ (((True ∧ (40 : Nat) ≤ (140737488355328 : Nat) ∧ (True ∧ q29_10 ∧ ((∃ (l : List Int), [O.d (D.ints IntKind.u8 s.lch.v)] = [O.d (D.ints IntKind.u8 l)] ∧
  sm l.length) ∧ q29_10 ∧ (True ∧ True ∧ s.key = (q29_18 s w).key ∧ s.win = (q29_18 s w).win ∧ s.life = (q29_18 s w).life ∧ s.rto = (q29_18 s w).rto ∧ s.tries = (q29_18 s w).tries ∧
  s.ltag = (q29_18 s w).ltag ∧ s.lch.t = (q29_18 s w).lch.t ∧ s.lch.f = (q29_18 s w).lch.f ∧ s.lch.v = (q29_18 s w).lch.v ∧ IntKind.i64.wrap (w + s.rto) = (q29_18 s w).at_ ∧
  IntKind.i64.wrap (s.left - (1 : Int)) = (q29_18 s w).left ∧ s.set = (q29_18 s w).set ∧ s.st = (q29_18 s w).st ∧ s.mt = (q29_18 s w).mt ∧ s.ms = (q29_18 s w).ms ∧
  s.pt = (q29_18 s w).pt ∧ s.ps = (q29_18 s w).ps ∧ q29_2 ∧ noOut.ev = [] ∧ ((1 : Nat) = (tickA (q29_0 s) w).snd.pk.length ∧ ∀ (i : Nat), i < (1 : Nat) →
  ∀ (j : Nat), j < (4 : Nat) → (bif q29_11 i j then [D.ints IntKind.u8 s.lch.v].getD (j - (3 : Nat)) (q29_20 s i j) else q29_20 s i j) = q29_19 j s w i) ∧
  noOut.ev = (tickA (q29_0 s) w).snd.ev ∧ (true && true && true) = true) ∧
  True) ∧ True) ∧ True) ∧ True) ∧ True) ∧ True)) := by
  delta q29_0 q29_2 q29_3 q29_4 q29_5 q29_8 q29_10 q29_11 q29_13 q29_16 q29_17 q29_18 q29_19 q29_20
  simp only [↓sw_iff, ↓Bool.and_eq_true, ↓decide_eq_true_eq, ↓decide_eq_false_iff_not, ↓Bool.not_eq_true', ↓Bool.not_eq_false', true_and, and_true, implies_true, as_eta, size142, wrap_key]
  intro s w hs hw
  simp only [wrap_rto hs hw, wrap_left hs]
  have hv := sm_lch hs
  refine ⟨fun h => ?_, fun h => ⟨fun h0 => ?_, fun h0 => ?_⟩⟩
  · have e : tickA s w = (s, noOut) := by
      unfold tickA
      rw [if_pos (by simpa using h)]
    rw [e]
    repeat' (first | exact rfl | apply And.intro)
  · have e : tickA s w = (endA s, ⟨[], [3]⟩) := by
      unfold tickA
      rw [if_neg (by simpa using h), if_pos h0]
    rw [e]
    repeat' (first | exact rfl | exact cells0 | omega | apply And.intro)
  · have e : tickA s w = ({ s with left := s.left - 1, at_ := w + s.rto }, sayO s.ltag s.lch) := by
      unfold tickA
      rw [if_neg (by simpa using h), if_neg h0]
    rw [e]
    repeat' (first | exact rfl | exact cells1 rfl rfl rfl rfl | omega | exact ⟨_, rfl, hv⟩ | apply And.intro)
set_option maxRecDepth 100000 in
theorem ok73 : FnIs Try.prog 73 (tickRC asO outO) := by
  refine fnIs (C := (ctrsJ Try.prog l1 iA 5)) (by kernel_rfl) (cokJ (by kernel_rfl) l1_ok iA_ok) Try.func73 (code := code73) (by kernel_rfl) (by kernel_rfl) ?_
  rintro a ⟨s, w, rfl, hs, hw⟩
  exact ⟨anns [], kcast (vc73 s w hs hw) (by kernel_rfl)⟩

noncomputable def code76 : Code := match Try.f76.body with | some c => c | none => .skip
set_option maxHeartbeats 4000000 in
theorem vc76 : ∀ (s : AsR) (w : Int) (b : Bool), okAs s → okNow w → True ∧ sw (!decide (s.st = (3 : Int))) (s.key = (q29_21 s w b).key ∧ s.win = (q29_21 s w b).win ∧
  s.life = (q29_21 s w b).life ∧ s.rto = (q29_21 s w b).rto ∧ s.tries = (q29_21 s w b).tries ∧ s.ltag = (q29_21 s w b).ltag ∧ s.lch.t = (q29_21 s w b).lch.t ∧
  s.lch.f = (q29_21 s w b).lch.f ∧ s.lch.v = (q29_21 s w b).lch.v ∧ s.at_ = (q29_21 s w b).at_ ∧ s.left = (q29_21 s w b).left ∧ s.set = (q29_21 s w b).set ∧
  s.st = (q29_21 s w b).st ∧ s.mt = (q29_21 s w b).mt ∧ s.ms = (q29_21 s w b).ms ∧ s.pt = (q29_21 s w b).pt ∧ s.ps = (q29_21 s w b).ps ∧ q29_4 ∧ q29_5 ∧ (closeA (q29_0 s) w b).snd.fst.pk.length = (0 : Nat) ∧
  (closeA (q29_0 s) w b).snd.fst.ev = [] ∧ (7 : Int) = (closeA (q29_0 s) w b).snd.snd ∧ q29_8) (sw b (((True ∧ (((True ∧ (40 : Nat) ≤ (140737488355328 : Nat) ∧
  (True ∧ q29_10 ∧ (q29_22 ∧ q29_10 ∧ (True ∧ True ∧ s.key = (q29_21 s w b).key ∧ s.win = (q29_21 s w b).win ∧ s.life = (q29_21 s w b).life ∧ s.rto = (q29_21 s w b).rto ∧
  s.tries = (q29_21 s w b).tries ∧ s.pt = (q29_21 s w b).ltag ∧ (7 : Int) = (q29_21 s w b).lch.t ∧ (0 : Int) = (q29_21 s w b).lch.f ∧ (q29_21 s w b).lch.v = [] ∧
  IntKind.i64.wrap (w + s.rto) = (q29_21 s w b).at_ ∧ s.tries = (q29_21 s w b).left ∧ true = (q29_21 s w b).set ∧ (5 : Int) = (q29_21 s w b).st ∧ s.mt = (q29_21 s w b).mt ∧
  s.ms = (q29_21 s w b).ms ∧ s.pt = (q29_21 s w b).pt ∧ s.ps = (q29_21 s w b).ps ∧ q29_2 ∧ noOut.ev = [] ∧ ((1 : Nat) = (closeA (q29_0 s) w b).snd.fst.pk.length ∧
  ∀ (i : Nat), i < (1 : Nat) → ∀ (j : Nat), j < (4 : Nat) → q29_24 i j s = q29_25 j s w b i) ∧ noOut.ev = (closeA (q29_0 s) w b).snd.fst.ev ∧ (0 : Int) = (closeA (q29_0 s) w b).snd.snd ∧
  q29_26) ∧ True) ∧ True) ∧ True) ∧ True) ∧ True) ∧ True) ∧ True) ∧ True) (True ∧ s.key = (q29_21 s w b).key ∧ s.win = (q29_21 s w b).win ∧ s.life = (q29_21 s w b).life ∧
  s.rto = (q29_21 s w b).rto ∧ s.tries = (q29_21 s w b).tries ∧ s.ltag = (q29_21 s w b).ltag ∧ s.lch.t = (q29_21 s w b).lch.t ∧ s.lch.f = (q29_21 s w b).lch.f ∧
  s.lch.v = (q29_21 s w b).lch.v ∧ s.at_ = (q29_21 s w b).at_ ∧ s.left = (q29_21 s w b).left ∧ s.set = (q29_21 s w b).set ∧ (4 : Int) = (q29_21 s w b).st ∧
  s.mt = (q29_21 s w b).mt ∧ s.ms = (q29_21 s w b).ms ∧ s.pt = (q29_21 s w b).pt ∧ s.ps = (q29_21 s w b).ps ∧ q29_2 ∧ noOut.ev = [] ∧ ((0 : Nat) = (closeA (q29_0 s) w b).snd.fst.pk.length ∧
  ∀ (i : Nat), i < (0 : Nat) → ∀ (j : Nat), j < (4 : Nat) → q29_3 j i = q29_25 j s w b i) ∧ noOut.ev = (closeA (q29_0 s) w b).snd.fst.ev ∧ (0 : Int) = (closeA (q29_0 s) w b).snd.snd ∧
  q29_8)) := by
  delta q29_0 q29_2 q29_3 q29_4 q29_5 q29_8 q29_10 q29_11 q29_13 q29_21 q29_22 q29_23 q29_24 q29_25 q29_26
  simp only [↓sw_iff, ↓Bool.and_eq_true, ↓decide_eq_true_eq, ↓decide_eq_false_iff_not, ↓Bool.not_eq_true', ↓Bool.not_eq_false', true_and, and_true, implies_true, as_eta, size142]
  intro s w b hs hw
  simp only [wrap_rto hs hw]
  have hv := sm_lch hs
  refine ⟨fun h => ?_, fun h => ⟨fun h0 => ?_, fun h0 => ?_⟩⟩
  · have e : closeA s w b = (s, noOut, 7) := by
      unfold closeA
      rw [if_pos h]
    rw [e]
    repeat' (first | exact rfl | exact cells1 rfl rfl rfl rfl | exact cells0 | omega | exact ⟨_, rfl, hv⟩ | exact ⟨_, rfl, sm_nil⟩ | apply And.intro)
  · have e : closeA s w b = ((shutA s w).1, (shutA s w).2, 0) := by
      unfold closeA
      rw [if_neg (by simpa using h), if_pos h0]
    rw [e]
    repeat' (first | exact rfl | exact cells1 rfl rfl rfl rfl | exact cells0 | omega | exact ⟨_, rfl, hv⟩ | exact ⟨_, rfl, sm_nil⟩ | apply And.intro)
  · have e : closeA s w b = ({ s with st := 4 }, noOut, 0) := by
      unfold closeA
      rw [if_neg (by simpa using h), if_neg (by simp [h0])]
    rw [e]
    repeat' (first | exact rfl | exact cells1 rfl rfl rfl rfl | exact cells0 | omega | exact ⟨_, rfl, hv⟩ | exact ⟨_, rfl, sm_nil⟩ | apply And.intro)
set_option maxRecDepth 100000 in
theorem ok76 : FnIs Try.prog 76 (closeRC asO outO) := by
  refine fnIs (C := (ctrsJ Try.prog l1 iA 5)) (by kernel_rfl) (cokJ (by kernel_rfl) l1_ok iA_ok) Try.func76 (code := code76) (by kernel_rfl) (by kernel_rfl) ?_
  rintro a ⟨s, w, b, rfl, hs, hw⟩
  exact ⟨anns [], kcast (vc76 s w b hs hw) (by kernel_rfl)⟩

noncomputable def code78 : Code := match Try.f78.body with | some c => c | none => .skip
set_option maxHeartbeats 4000000 in
theorem vc78 : ∀ (s : AsR) (w : Int), okAs s → okNow w → True ∧ sw (decide (s.st = (4 : Int))) (((True ∧ (((True ∧ (40 : Nat) ≤ (140737488355328 : Nat) ∧
  (True ∧ q29_10 ∧ (q29_22 ∧ q29_10 ∧ (True ∧ True ∧ s.key = (q29_27 s w).key ∧ s.win = (q29_27 s w).win ∧ s.life = (q29_27 s w).life ∧ s.rto = (q29_27 s w).rto ∧
  s.tries = (q29_27 s w).tries ∧ s.pt = (q29_27 s w).ltag ∧ (7 : Int) = (q29_27 s w).lch.t ∧ (0 : Int) = (q29_27 s w).lch.f ∧ (q29_27 s w).lch.v = [] ∧ IntKind.i64.wrap (w + s.rto) = (q29_27 s w).at_ ∧
  s.tries = (q29_27 s w).left ∧ true = (q29_27 s w).set ∧ (5 : Int) = (q29_27 s w).st ∧ s.mt = (q29_27 s w).mt ∧ s.ms = (q29_27 s w).ms ∧ s.pt = (q29_27 s w).pt ∧
  s.ps = (q29_27 s w).ps ∧ q29_2 ∧ noOut.ev = [] ∧ ((1 : Nat) = (drainA (q29_0 s) w).snd.pk.length ∧ ∀ (i : Nat), i < (1 : Nat) → ∀ (j : Nat), j < (4 : Nat) →
  q29_24 i j s = q29_28 j s w i) ∧ noOut.ev = (drainA (q29_0 s) w).snd.ev ∧ q29_26) ∧ True) ∧ True) ∧ True) ∧ True) ∧ True) ∧ True) ∧ True) ∧ True) (True ∧
  sw (decide (s.st = (6 : Int))) (((True ∧ (((True ∧ (40 : Nat) ≤ (140737488355328 : Nat) ∧ (True ∧ q29_10 ∧ (q29_22 ∧ q29_10 ∧ (True ∧ True ∧ s.key = (q29_27 s w).key ∧
  s.win = (q29_27 s w).win ∧ s.life = (q29_27 s w).life ∧ s.rto = (q29_27 s w).rto ∧ s.tries = (q29_27 s w).tries ∧ s.pt = (q29_27 s w).ltag ∧ (8 : Int) = (q29_27 s w).lch.t ∧
  (0 : Int) = (q29_27 s w).lch.f ∧ (q29_27 s w).lch.v = [] ∧ IntKind.i64.wrap (w + s.rto) = (q29_27 s w).at_ ∧ s.tries = (q29_27 s w).left ∧ true = (q29_27 s w).set ∧
  (7 : Int) = (q29_27 s w).st ∧ s.mt = (q29_27 s w).mt ∧ s.ms = (q29_27 s w).ms ∧ s.pt = (q29_27 s w).pt ∧ s.ps = (q29_27 s w).ps ∧ q29_2 ∧ noOut.ev = [] ∧
  ((1 : Nat) = (drainA (q29_0 s) w).snd.pk.length ∧ ∀ (i : Nat), i < (1 : Nat) → ∀ (j : Nat), j < (4 : Nat) → (bif q29_11 i j then [D.ints IntKind.u8 []].getD (j - (3 : Nat)) ((D.v (Value.int IntKind.u32 s.pt) :: D.v (Value.int IntKind.u8 (8 : Int)) :: q29_23).getD (q29_13 i + j) (D.v undef)) else (D.v (Value.int IntKind.u32 s.pt) :: D.v (Value.int IntKind.u8 (8 : Int)) :: q29_23).getD (q29_13 i + j) (D.v undef)) = q29_28 j s w i) ∧
  noOut.ev = (drainA (q29_0 s) w).snd.ev ∧ q29_26) ∧ True) ∧ True) ∧ True) ∧ True) ∧ True) ∧ True) ∧ True) ∧ True) (True ∧ s.key = (q29_27 s w).key ∧ s.win = (q29_27 s w).win ∧
  s.life = (q29_27 s w).life ∧ s.rto = (q29_27 s w).rto ∧ s.tries = (q29_27 s w).tries ∧ s.ltag = (q29_27 s w).ltag ∧ s.lch.t = (q29_27 s w).lch.t ∧ s.lch.f = (q29_27 s w).lch.f ∧
  s.lch.v = (q29_27 s w).lch.v ∧ s.at_ = (q29_27 s w).at_ ∧ s.left = (q29_27 s w).left ∧ s.set = (q29_27 s w).set ∧ s.st = (q29_27 s w).st ∧ s.mt = (q29_27 s w).mt ∧
  s.ms = (q29_27 s w).ms ∧ s.pt = (q29_27 s w).pt ∧ s.ps = (q29_27 s w).ps ∧ q29_2 ∧ noOut.ev = [] ∧ ((0 : Nat) = (drainA (q29_0 s) w).snd.pk.length ∧ ∀ (i : Nat), i < (0 : Nat) →
  ∀ (j : Nat), j < (4 : Nat) → q29_3 j i = q29_28 j s w i) ∧ noOut.ev = (drainA (q29_0 s) w).snd.ev ∧ q29_8)) := by
  delta q29_0 q29_2 q29_3 q29_8 q29_10 q29_11 q29_13 q29_22 q29_23 q29_24 q29_26 q29_27 q29_28
  simp only [↓sw_iff, ↓Bool.and_eq_true, ↓decide_eq_true_eq, ↓decide_eq_false_iff_not, true_and, and_true, as_eta, size142]
  intro s w hs hw
  simp only [wrap_rto hs hw]
  have hv := sm_lch hs
  refine ⟨fun h => ?_, fun h => ⟨fun h0 => ?_, fun h0 => ?_⟩⟩
  · have e : drainA s w = shutA s w := by
      unfold drainA
      rw [if_pos h]
    rw [e]
    repeat' (first | exact rfl | exact cells1 rfl rfl rfl rfl | exact cells0 | omega | exact ⟨_, rfl, hv⟩ | exact ⟨_, rfl, sm_nil⟩ | apply And.intro)
  · have e : drainA s w = shacA s w := by
      unfold drainA
      rw [if_neg h, if_pos h0]
    rw [e]
    repeat' (first | exact rfl | exact cells1 rfl rfl rfl rfl | exact cells0 | omega | exact ⟨_, rfl, hv⟩ | exact ⟨_, rfl, sm_nil⟩ | apply And.intro)
  · have e : drainA s w = (s, noOut) := by
      unfold drainA
      rw [if_neg h, if_neg h0]
    rw [e]
    repeat' (first | exact rfl | exact cells1 rfl rfl rfl rfl | exact cells0 | omega | exact ⟨_, rfl, hv⟩ | exact ⟨_, rfl, sm_nil⟩ | apply And.intro)
set_option maxRecDepth 100000 in
theorem ok78 : FnIs Try.prog 78 (drainRC asO outO) := by
  refine fnIs (C := (ctrsJ Try.prog l1 iA 5)) (by kernel_rfl) (cokJ (by kernel_rfl) l1_ok iA_ok) Try.func78 (code := code78) (by kernel_rfl) (by kernel_rfl) ?_
  rintro a ⟨s, w, rfl, hs, hw⟩
  exact ⟨anns [], kcast (vc78 s w hs hw) (by kernel_rfl)⟩

noncomputable def code80 : Code := match Try.f80.body with | some c => c | none => .skip
set_option maxHeartbeats 4000000 in
theorem vc80 : ∀ (s : AsR), okAs s → True ∧ sw (decide (s.st = (0 : Int))) (s.key = (q29_29 s).key ∧ s.win = (q29_29 s).win ∧ s.life = (q29_29 s).life ∧
  s.rto = (q29_29 s).rto ∧ s.tries = (q29_29 s).tries ∧ s.ltag = (q29_29 s).ltag ∧ s.lch.t = (q29_29 s).lch.t ∧ s.lch.f = (q29_29 s).lch.f ∧ s.lch.v = (q29_29 s).lch.v ∧
  s.at_ = (q29_29 s).at_ ∧ s.left = (q29_29 s).left ∧ s.set = (q29_29 s).set ∧ s.st = (q29_29 s).st ∧ s.mt = (q29_29 s).mt ∧ s.ms = (q29_29 s).ms ∧ s.pt = (q29_29 s).pt ∧
  s.ps = (q29_29 s).ps ∧ q29_4 ∧ q29_5 ∧ (abortA (q29_0 s)).snd.pk.length = (0 : Nat) ∧ (abortA (q29_0 s)).snd.ev = [] ∧ q29_8) (True ∧ sw (!decide (s.pt = (0 : Int))) (((((True ∧
  (40 : Nat) ≤ (140737488355328 : Nat) ∧ (True ∧ True ∧ q29_10 ∧ (q29_22 ∧ q29_10 ∧ (True ∧ True ∧ IntKind.u64.wrap (s.key + (1 : Int)) = (q29_29 s).key ∧
  s.win = (q29_29 s).win ∧ s.life = (q29_29 s).life ∧ s.rto = (q29_29 s).rto ∧ s.tries = (q29_29 s).tries ∧ (0 : Int) = (q29_29 s).ltag ∧ (0 : Int) = (q29_29 s).lch.t ∧
  (0 : Int) = (q29_29 s).lch.f ∧ (q29_29 s).lch.v = [] ∧ (0 : Int) = (q29_29 s).at_ ∧ (0 : Int) = (q29_29 s).left ∧ false = (q29_29 s).set ∧ (0 : Int) = (q29_29 s).st ∧
  (0 : Int) = (q29_29 s).mt ∧ (0 : Int) = (q29_29 s).ms ∧ (0 : Int) = (q29_29 s).pt ∧ (0 : Int) = (q29_29 s).ps ∧ q29_2 ∧ noOut.ev = [] ∧ ((1 : Nat) = (abortA (q29_0 s)).snd.pk.length ∧
  ∀ (i : Nat), i < (1 : Nat) → ∀ (j : Nat), j < (4 : Nat) → (bif q29_11 i j then [D.ints IntKind.u8 []].getD (j - (3 : Nat)) ((D.v (Value.int IntKind.u32 s.pt) :: D.v (Value.int IntKind.u8 (6 : Int)) :: q29_23).getD (q29_13 i + j) (D.v undef)) else (D.v (Value.int IntKind.u32 s.pt) :: D.v (Value.int IntKind.u8 (6 : Int)) :: q29_23).getD (q29_13 i + j) (D.v undef)) = q29_30 j s i) ∧
  noOut.ev = (abortA (q29_0 s)).snd.ev ∧ (true && true && true) = true) ∧
  True) ∧ True) ∧ True) ∧ True) ∧ True) ∧ True) ∧ True) (True ∧ True ∧ IntKind.u64.wrap (s.key + (1 : Int)) = (q29_29 s).key ∧ s.win = (q29_29 s).win ∧ s.life = (q29_29 s).life ∧
  s.rto = (q29_29 s).rto ∧ s.tries = (q29_29 s).tries ∧ (0 : Int) = (q29_29 s).ltag ∧ (0 : Int) = (q29_29 s).lch.t ∧ (0 : Int) = (q29_29 s).lch.f ∧ (q29_29 s).lch.v = [] ∧
  (0 : Int) = (q29_29 s).at_ ∧ (0 : Int) = (q29_29 s).left ∧ false = (q29_29 s).set ∧ (0 : Int) = (q29_29 s).st ∧ (0 : Int) = (q29_29 s).mt ∧ (0 : Int) = (q29_29 s).ms ∧
  (0 : Int) = (q29_29 s).pt ∧ (0 : Int) = (q29_29 s).ps ∧ q29_2 ∧ noOut.ev = [] ∧ ((0 : Nat) = (abortA (q29_0 s)).snd.pk.length ∧ ∀ (i : Nat), i < (0 : Nat) →
  ∀ (j : Nat), j < (4 : Nat) → q29_3 j i = q29_30 j s i) ∧ noOut.ev = (abortA (q29_0 s)).snd.ev ∧ q29_8)) := by
  delta q29_0 q29_2 q29_3 q29_4 q29_5 q29_8 q29_10 q29_11 q29_13 q29_22 q29_23 q29_29 q29_30
  simp only [↓sw_iff, ↓Bool.and_eq_true, ↓decide_eq_true_eq, ↓decide_eq_false_iff_not, ↓Bool.not_eq_true', ↓Bool.not_eq_false', true_and, and_true, implies_true, as_eta, size142, wrap_key]
  intro s hs
  have hv := sm_lch hs
  refine ⟨fun h => ?_, fun h => ⟨fun h0 => ?_, fun h0 => ?_⟩⟩
  · have e : abortA s = (s, noOut) := by
      unfold abortA
      rw [if_pos h]
    rw [e]
    repeat' (first | exact rfl | exact cells1 rfl rfl rfl rfl | exact cells0 | omega | exact ⟨_, rfl, hv⟩ | exact ⟨_, rfl, sm_nil⟩ | apply And.intro)
  · have e : abortA s = (endA s, sayO s.pt (bareC 6)) := by
      unfold abortA
      rw [if_neg h, if_neg (by simpa using h0)]
    rw [e]
    repeat' (first | exact rfl | exact cells1 rfl rfl rfl rfl | exact cells0 | omega | exact ⟨_, rfl, hv⟩ | exact ⟨_, rfl, sm_nil⟩ | apply And.intro)
  · have e : abortA s = (endA s, noOut) := by
      unfold abortA
      rw [if_neg h, if_pos (by simpa using h0)]
    rw [e]
    repeat' (first | exact rfl | exact cells1 rfl rfl rfl rfl | exact cells0 | omega | exact ⟨_, rfl, hv⟩ | exact ⟨_, rfl, sm_nil⟩ | apply And.intro)
set_option maxRecDepth 100000 in
theorem ok80 : FnIs Try.prog 80 (abortRC asO outO) := by
  refine fnIs (C := (ctrsJ Try.prog l1 iA 5)) (by kernel_rfl) (cokJ (by kernel_rfl) l1_ok iA_ok) Try.func80 (code := code80) (by kernel_rfl) (by kernel_rfl) ?_
  rintro a ⟨s, rfl, hs⟩
  exact ⟨anns [], kcast (vc80 s hs) (by kernel_rfl)⟩

end Go.ZR
