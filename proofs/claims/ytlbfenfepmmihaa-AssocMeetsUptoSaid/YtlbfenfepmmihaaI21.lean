/- Part 21 of what the closing text rests on. -/
import Derived.Test.YtlbfenfepmmihaaI19
import Derived.Test.YtlbfenfepmmihaaRows
namespace Go.ZR
open Go.Proofs
open Go.Z Go.ZM Go.RowKit
set_option maxRecDepth 100000
theorem l2_ok : COk Try.prog (ctrs l2) := cok_cons ok116 (cok_cons ok168 (cok_cons ok213 (cok_cons ok211 (cok_cons ok214 cok_nil))))
theorem size150 : Try.prog.types[(150 : Nat)].size = 4 := by kernel_rfl
noncomputable def iRc69 : Code := match Try.f69.body with | some c => c | none => .skip
noncomputable def iR_69 : InlF := ⟨iRc69, Try.f69.ntmps, Try.f69.results.toList, anns []⟩
noncomputable def iRc70 : Code := match Try.f70.body with | some c => c | none => .skip
noncomputable def iR_70 : InlF := ⟨iRc70, Try.f70.ntmps, Try.f70.results.toList, anns []⟩
noncomputable def iRc115 : Code := match Try.f115.body with | some c => c | none => .skip
noncomputable def iR_115 : InlF := ⟨iRc115, Try.f115.ntmps, Try.f115.results.toList, anns []⟩
noncomputable def iRc121 : Code := match Try.f121.body with | some c => c | none => .skip
noncomputable def iR_121 : InlF := ⟨iRc121, Try.f121.ntmps, Try.f121.results.toList, anns []⟩
noncomputable def iRc122 : Code := match Try.f122.body with | some c => c | none => .skip
noncomputable def iR_122 : InlF := ⟨iRc122, Try.f122.ntmps, Try.f122.results.toList, anns []⟩
noncomputable def iRc157 : Code := match Try.f157.body with | some c => c | none => .skip
noncomputable def iR_157 : InlF := ⟨iRc157, Try.f157.ntmps, Try.f157.results.toList, anns []⟩
noncomputable def iRc167 : Code := match Try.f167.body with | some c => c | none => .skip
noncomputable def iR_167 : InlF := ⟨iRc167, Try.f167.ntmps, Try.f167.results.toList, anns []⟩
noncomputable def iRc169 : Code := match Try.f169.body with | some c => c | none => .skip
noncomputable def iR_169 : InlF := ⟨iRc169, Try.f169.ntmps, Try.f169.results.toList, anns []⟩
noncomputable def iRc215 : Code := match Try.f215.body with | some c => c | none => .skip
noncomputable def iR_215 : InlF := ⟨iRc215, Try.f215.ntmps, Try.f215.results.toList, anns []⟩
noncomputable def iR : List (Nat × InlF) := [(69, iR_69), (70, iR_70), (115, iR_115), (121, iR_121), (122, iR_122), (157, iR_157), (167, iR_167), (169, iR_169), (215, iR_215)]
theorem iR_ok : InlsOk Try.prog iR := ⟨inlOk Try.func69 (by kernel_rfl) (by kernel_rfl), inlOk Try.func70 (by kernel_rfl) (by kernel_rfl), inlOk Try.func115 (by kernel_rfl) (by kernel_rfl), inlOk Try.func121 (by kernel_rfl) (by kernel_rfl), inlOk Try.func122 (by kernel_rfl) (by kernel_rfl), inlOk Try.func157 (by kernel_rfl) (by kernel_rfl), inlOk Try.func167 (by kernel_rfl) (by kernel_rfl), inlOk Try.func169 (by kernel_rfl) (by kernel_rfl), inlOk Try.func215 (by kernel_rfl) (by kernel_rfl), trivial⟩
noncomputable def code30 : Code := match Try.f30.body with | some c => c | none => .skip
@[reducible] noncomputable def q30_0 (x0 : AsR) : AsR := AsR.mk x0.key x0.win x0.life x0.rto x0.tries x0.ltag (ChR.mk x0.lch.t x0.lch.f x0.lch.v) x0.at_ x0.left x0.set x0.st x0.mt x0.ms x0.pt x0.ps
@[reducible] noncomputable def q30_1 (x0 : AsR) (x1 : Int) (x2 : Int) (x3 : Int) : AsR := (openA (q30_0 x0) x1 x2 x3).fst
@[reducible] def q30_3 : Prop := true = true
@[reducible] noncomputable def q30_5 : Nat := Try.prog.types[150].size
@[reducible] noncomputable def q30_6 (x0 : AsR) : Bool := !!x0.set
@[reducible] def q30_7 (x0 : AsR) : Prop := [q30_6 x0] = [q30_6 x0]
@[reducible] noncomputable def q30_8 (x0 : AsR) (x1 : Int) : AsR := (tickA (q30_0 x0) x1).fst
@[reducible] def q30_9 : Prop := true = true
@[reducible] noncomputable def q30_10 (x0 : AsR) (x1 : Int) (x2 : Bool) : AsR := (closeA (q30_0 x0) x1 x2).fst
@[reducible] noncomputable def q30_11 : List D := [D.v (Value.int IntKind.u8 (0 : Int)), D.ints IntKind.u8 []]
@[reducible] def q30_12 : Prop := true = true
@[reducible] noncomputable def q30_13 (x0 : AsR) (x1 : Int) : AsR := (drainA (q30_0 x0) x1).fst
@[reducible] noncomputable def q30_14 (x0 : Nat) (x1 : AsR) (x2 : Int) (x3 : Nat) : D := match x0 with | (0 : Nat) => D.v (Value.int IntKind.u32 ((drainA (q30_0 x1) x2).snd.pk.getD x3 noLtr).tag) | (1 : Nat) => D.v (Value.int IntKind.u8 ((drainA (q30_0 x1) x2).snd.pk.getD x3 noLtr).ch.t) | (2 : Nat) => D.v (Value.int IntKind.u8 ((drainA (q30_0 x1) x2).snd.pk.getD x3 noLtr).ch.f) | _x => D.ints IntKind.u8 ((drainA (q30_0 x1) x2).snd.pk.getD x3 noLtr).ch.v
@[reducible] noncomputable def q30_15 (x0 : AsR) : AsR := (abortA (q30_0 x0)).fst
@[reducible] def q30_16 (x0 : AsR) : Prop := (abortA (q30_0 x0)).snd.pk.length = (0 : Nat) ∧ (abortA (q30_0 x0)).snd.ev = [] ∧ q30_3
set_option maxHeartbeats 4000000 in
theorem vc30 : ∀ (s : AsR) (t n w : Int), okAs s → okU t → okU n → okNow w → True ∧ sw (!decide (s.st = (0 : Int))) (s.key = (q30_1 s t n w).key ∧ s.win = (q30_1 s t n w).win ∧ s.life = (q30_1 s t n w).life ∧ s.rto = (q30_1 s t n w).rto ∧ s.tries = (q30_1 s t n w).tries ∧ s.st = (q30_1 s t n w).st ∧ s.mt = (q30_1 s t n w).mt ∧ s.pt = (q30_1 s t n w).pt ∧ s.ms = (q30_1 s t n w).ms ∧ s.ps = (q30_1 s t n w).ps ∧ s.ltag = (q30_1 s t n w).ltag ∧ s.lch.t = (q30_1 s t n w).lch.t ∧ s.lch.f = (q30_1 s t n w).lch.f ∧ s.lch.v = (q30_1 s t n w).lch.v ∧ s.set = (q30_1 s t n w).set ∧ s.at_ = (q30_1 s t n w).at_ ∧ s.left = (q30_1 s t n w).left ∧ (openA (q30_0 s) t n w).snd.fst.pk.length = (0 : Nat) ∧ (openA (q30_0 s) t n w).snd.fst.ev = [] ∧ (7 : Int) = (openA (q30_0 s) t n w).snd.snd ∧ q30_3) (True ∧ sw (decide (t = (0 : Int))) (s.key = (q30_1 s t n w).key ∧ s.win = (q30_1 s t n w).win ∧ s.life = (q30_1 s t n w).life ∧ s.rto = (q30_1 s t n w).rto ∧ s.tries = (q30_1 s t n w).tries ∧ s.st = (q30_1 s t n w).st ∧ s.mt = (q30_1 s t n w).mt ∧ s.pt = (q30_1 s t n w).pt ∧ s.ms = (q30_1 s t n w).ms ∧ s.ps = (q30_1 s t n w).ps ∧ s.ltag = (q30_1 s t n w).ltag ∧ s.lch.t = (q30_1 s t n w).lch.t ∧ s.lch.f = (q30_1 s t n w).lch.f ∧ s.lch.v = (q30_1 s t n w).lch.v ∧ s.set = (q30_1 s t n w).set ∧ s.at_ = (q30_1 s t n w).at_ ∧ s.left = (q30_1 s t n w).left ∧ (openA (q30_0 s) t n w).snd.fst.pk.length = (0 : Nat) ∧ (openA (q30_0 s) t n w).snd.fst.ev = [] ∧ (1 : Int) = (openA (q30_0 s) t n w).snd.snd ∧ q30_3) ((∃ (h : HelR), ∃ (b : Bool), [O.agg [iO .u32 t, iO .u32 s.win, iO .u16 (8 : Int), iO .u16 (8 : Int), iO .u32 n, O.d (D.ints IntKind.u8 [])], O.d (D.v (Value.bool false))] = [O.agg [iO .u32 h.tag, iO .u32 h.win, iO .u16 h.out, iO .u16 h.inn, iO .u32 h.tsn, O.d (D.ints IntKind.u8 h.cookie)], O.d (D.v (Value.bool b))] ∧ okHel h) ∧ ((True ∧ (40 : Nat) ≤ (140737488355328 : Nat) ∧ (True ∧ s.key = (q30_1 s t n w).key ∧ s.win = (q30_1 s t n w).win ∧ s.life = (q30_1 s t n w).life ∧ s.rto = (q30_1 s t n w).rto ∧ s.tries = (q30_1 s t n w).tries ∧ (1 : Int) = (q30_1 s t n w).st ∧ t = (q30_1 s t n w).mt ∧ s.pt = (q30_1 s t n w).pt ∧ n = (q30_1 s t n w).ms ∧ s.ps = (q30_1 s t n w).ps ∧ (0 : Int) = (q30_1 s t n w).ltag ∧ (fromHel (HelR.mk t s.win (8 : Int) (8 : Int) n []) false).fst.t = (q30_1 s t n w).lch.t ∧ (fromHel (HelR.mk t s.win (8 : Int) (8 : Int) n []) false).fst.f = (q30_1 s t n w).lch.f ∧ (fromHel (HelR.mk t s.win (8 : Int) (8 : Int) n []) false).fst.v = (q30_1 s t n w).lch.v ∧ true = (q30_1 s t n w).set ∧ IntKind.i64.wrap (w + s.rto) = (q30_1 s t n w).at_ ∧ s.tries = (q30_1 s t n w).left ∧ ((1 : Nat) = (openA (q30_0 s) t n w).snd.fst.pk.length ∧ ∀ (i : Nat), i < (1 : Nat) → ∀ (j : Nat), j < q30_5 → [D.v (Value.int IntKind.u32 (0 : Int)), D.v (Value.int IntKind.u8 (fromHel (HelR.mk t s.win (8 : Int) (8 : Int) n []) false).fst.t), D.v (Value.int IntKind.u8 (fromHel (HelR.mk t s.win (8 : Int) (8 : Int) n []) false).fst.f), D.ints IntKind.u8 (fromHel (HelR.mk t s.win (8 : Int) (8 : Int) n []) false).fst.v].getD (i * q30_5 + j) (D.v undef) = match j with | (0 : Nat) => D.v (Value.int IntKind.u32 ((openA (q30_0 s) t n w).snd.fst.pk.getD i noLtr).tag) | (1 : Nat) => D.v (Value.int IntKind.u8 ((openA (q30_0 s) t n w).snd.fst.pk.getD i noLtr).ch.t) | (2 : Nat) => D.v (Value.int IntKind.u8 ((openA (q30_0 s) t n w).snd.fst.pk.getD i noLtr).ch.f) | _x => D.ints IntKind.u8 ((openA (q30_0 s) t n w).snd.fst.pk.getD i noLtr).ch.v) ∧ (openA (q30_0 s) t n w).snd.fst.ev = [] ∧ (0 : Int) = (openA (q30_0 s) t n w).snd.snd ∧ true = true) ∧ True) ∧ True) ∧ True)) := by
  delta q30_0 q30_1 q30_3 q30_5 iO
  simp only [↓sw_iff, ↓decide_eq_true_eq, ↓decide_eq_false_iff_not, ↓Bool.not_eq_true', ↓Bool.not_eq_false', true_and, and_true, as_eta, size150]
  intro s t n w hs ht hn hw
  simp only [wrap_rto hs hw]
  have hv := sm_lch hs
  refine ⟨fun h => ?_, fun h => ⟨fun h0 => ?_, fun h0 => ?_⟩⟩
  · have e : openA s t n w = (s, noOut, 7) := by
      unfold openA
      rw [if_pos h]
    rw [e]
    repeat' (first | exact rfl | exact cells1 rfl rfl rfl rfl | exact cells0 | omega | exact ⟨_, rfl, hv⟩ | exact ⟨_, rfl, sm_nil⟩ | exact ⟨_, _, rfl, hel_ok hs ht hn⟩ | exact ⟨_, rfl, sm_hel _ _⟩ | apply And.intro)
  · have e : openA s t n w = (s, noOut, 1) := by
      unfold openA
      rw [if_neg (by simpa using h), if_pos h0]
    rw [e]
    repeat' (first | exact rfl | exact cells1 rfl rfl rfl rfl | exact cells0 | omega | exact ⟨_, rfl, hv⟩ | exact ⟨_, rfl, sm_nil⟩ | exact ⟨_, _, rfl, hel_ok hs ht hn⟩ | exact ⟨_, rfl, sm_hel _ _⟩ | apply And.intro)
  · obtain ⟨_, _, z3, z4, _⟩ := hs.zero (by simpa using h)
    have e : openA s t n w = ((greetA { s with mt := t, ms := n } w).1, (greetA { s with mt := t, ms := n } w).2, 0) := by
      unfold openA
      rw [if_neg (by simpa using h), if_neg h0]
    rw [e]
    repeat' (first | exact rfl | exact z3 | exact z4 | exact cells1 rfl rfl rfl rfl | exact cells0 | omega | exact ⟨_, rfl, hv⟩ | exact ⟨_, rfl, sm_nil⟩ | exact ⟨_, _, rfl, hel_ok hs ht hn⟩ | exact ⟨_, rfl, sm_hel _ _⟩ | apply And.intro)
set_option maxRecDepth 100000 in
theorem ok30 : FnIs Try.prog 30 (openRC rfO outW) := by
  refine fnIs (C := (ctrsJ Try.prog l2 iR 5)) (by kernel_rfl) (cokJ (by kernel_rfl) l2_ok iR_ok) Try.func30 (code := code30) (by kernel_rfl) (by kernel_rfl) ?_
  rintro a ⟨s, t, n, w, rfl, hs, ht, hn, hw⟩
  exact ⟨anns [], kcast (vc30 s t n w hs ht hn hw) (by kernel_rfl)⟩

noncomputable def code74 : Code := match Try.f74.body with | some c => c | none => .skip
set_option maxHeartbeats 4000000 in
theorem vc74 : ∀ (s : AsR) (w : Int), okAs s → okNow w → sw (q30_6 s) (SV.p (1 : Nat) (0 : Nat) = SV.p (1 : Nat) (0 : Nat)) True ∧ sw (q30_6 s) (q30_7 s ∧ SV.p (1 : Nat) (0 : Nat) = SV.p (1 : Nat) (0 : Nat)) True ∧ sw (q30_6 s) (q30_7 s ∧ SV.p (1 : Nat) (15 : Nat) = SV.p (1 : Nat) (15 : Nat)) True ∧ sw (q30_6 s) (q30_7 s ∧ SV.c (Value.int IntKind.i64 s.at_) = SV.c (Value.int IntKind.i64 s.at_)) True ∧ sw (q30_6 s) (SV.c (Value.int IntKind.i64 w) = SV.c (Value.int IntKind.i64 w)) True ∧ sw (q30_6 s) (q30_7 s ∧ q30_7 s ∧ True ∧ SV.c (Value.bool (decide (w < s.at_))) = SV.c (Value.bool (decide (w < s.at_)))) True ∧ q30_7 s ∧ sw (!s.set || decide (w < s.at_)) (s.key = (q30_8 s w).key ∧ s.win = (q30_8 s w).win ∧ s.life = (q30_8 s w).life ∧ s.rto = (q30_8 s w).rto ∧ s.tries = (q30_8 s w).tries ∧ s.st = (q30_8 s w).st ∧ s.mt = (q30_8 s w).mt ∧ s.pt = (q30_8 s w).pt ∧ s.ms = (q30_8 s w).ms ∧ s.ps = (q30_8 s w).ps ∧ s.ltag = (q30_8 s w).ltag ∧ s.lch.t = (q30_8 s w).lch.t ∧ s.lch.f = (q30_8 s w).lch.f ∧ s.lch.v = (q30_8 s w).lch.v ∧ s.set = (q30_8 s w).set ∧ s.at_ = (q30_8 s w).at_ ∧ s.left = (q30_8 s w).left ∧ (tickA (q30_0 s) w).snd.pk.length = (0 : Nat) ∧ (tickA (q30_0 s) w).snd.ev = [] ∧ q30_3) (True ∧ sw (decide (s.left = (0 : Int))) (True ∧ True ∧ (8 : Nat) ≤ (140737488355328 : Nat) ∧ IntKind.u64.wrap (s.key + (1 : Int)) = (q30_8 s w).key ∧ s.win = (q30_8 s w).win ∧ s.life = (q30_8 s w).life ∧ s.rto = (q30_8 s w).rto ∧ s.tries = (q30_8 s w).tries ∧ (0 : Int) = (q30_8 s w).st ∧ (0 : Int) = (q30_8 s w).mt ∧ (0 : Int) = (q30_8 s w).pt ∧ (0 : Int) = (q30_8 s w).ms ∧ (0 : Int) = (q30_8 s w).ps ∧ (0 : Int) = (q30_8 s w).ltag ∧ (0 : Int) = (q30_8 s w).lch.t ∧ (0 : Int) = (q30_8 s w).lch.f ∧ (q30_8 s w).lch.v = [] ∧ false = (q30_8 s w).set ∧ (0 : Int) = (q30_8 s w).at_ ∧ (0 : Int) = (q30_8 s w).left ∧ (tickA (q30_0 s) w).snd.pk.length = (0 : Nat) ∧ [(3 : Int)] = (tickA (q30_0 s) w).snd.ev ∧ true = true) (True ∧ True ∧ (((True ∧ (40 : Nat) ≤ (140737488355328 : Nat) ∧ (s.key = (q30_8 s w).key ∧ s.win = (q30_8 s w).win ∧ s.life = (q30_8 s w).life ∧ s.rto = (q30_8 s w).rto ∧ s.tries = (q30_8 s w).tries ∧ s.st = (q30_8 s w).st ∧ s.mt = (q30_8 s w).mt ∧ s.pt = (q30_8 s w).pt ∧ s.ms = (q30_8 s w).ms ∧ s.ps = (q30_8 s w).ps ∧ s.ltag = (q30_8 s w).ltag ∧ s.lch.t = (q30_8 s w).lch.t ∧ s.lch.f = (q30_8 s w).lch.f ∧ s.lch.v = (q30_8 s w).lch.v ∧ s.set = (q30_8 s w).set ∧ IntKind.i64.wrap (w + s.rto) = (q30_8 s w).at_ ∧ IntKind.i64.wrap (s.left - (1 : Int)) = (q30_8 s w).left ∧ ((1 : Nat) = (tickA (q30_0 s) w).snd.pk.length ∧ ∀ (i : Nat), i < (1 : Nat) → ∀ (j : Nat), j < q30_5 → [D.v (Value.int IntKind.u32 s.ltag), D.v (Value.int IntKind.u8 s.lch.t), D.v (Value.int IntKind.u8 s.lch.f), D.ints IntKind.u8 s.lch.v].getD (i * q30_5 + j) (D.v undef) = match j with | (0 : Nat) => D.v (Value.int IntKind.u32 ((tickA (q30_0 s) w).snd.pk.getD i noLtr).tag) | (1 : Nat) => D.v (Value.int IntKind.u8 ((tickA (q30_0 s) w).snd.pk.getD i noLtr).ch.t) | (2 : Nat) => D.v (Value.int IntKind.u8 ((tickA (q30_0 s) w).snd.pk.getD i noLtr).ch.f) | _x => D.ints IntKind.u8 ((tickA (q30_0 s) w).snd.pk.getD i noLtr).ch.v) ∧ (tickA (q30_0 s) w).snd.ev = [] ∧ q30_9) ∧ True) ∧ True) ∧ True) ∧ True)) := by
  delta q30_0 q30_3 q30_5 q30_6 q30_7 q30_8 q30_9
  simp only [↓sw_iff, ↓decide_eq_true_eq, ↓decide_eq_false_iff_not, ↓Bool.not_eq_true', ↓Bool.not_eq_false', true_and, and_true, implies_true, as_eta, size150, wrap_key]
  intro s w hs hw
  simp only [wrap_rto hs hw, wrap_left hs]
  have hv := sm_lch hs
  refine ⟨fun h => ?_, fun h => ⟨fun h0 => ?_, fun h0 => ?_⟩⟩
  · have e : tickA s w = (s, noOut) := by
      unfold tickA
      rw [if_pos (by simpa using h)]
    rw [e]
    repeat' (first | exact rfl | apply And.intro)
  · have e : tickA s w = (endA s, ⟨[], [3]⟩) := by
      unfold tickA
      rw [if_neg (by simpa using h), if_pos h0]
    rw [e]
    repeat' (first | exact rfl | exact cells0 | omega | apply And.intro)
  · have e : tickA s w = ({ s with left := s.left - 1, at_ := w + s.rto }, sayO s.ltag s.lch) := by
      unfold tickA
      rw [if_neg (by simpa using h), if_neg h0]
    rw [e]
    repeat' (first | exact rfl | exact cells1 rfl rfl rfl rfl | omega | exact ⟨_, rfl, hv⟩ | apply And.intro)
set_option maxRecDepth 100000 in
theorem ok74 : FnIs Try.prog 74 (tickRC rfO outW) := by
  refine fnIs (C := (ctrsJ Try.prog l2 iR 5)) (by kernel_rfl) (cokJ (by kernel_rfl) l2_ok iR_ok) Try.func74 (code := code74) (by kernel_rfl) (by kernel_rfl) ?_
  rintro a ⟨s, w, rfl, hs, hw⟩
  exact ⟨anns [], kcast (vc74 s w hs hw) (by kernel_rfl)⟩

noncomputable def code77 : Code := match Try.f77.body with | some c => c | none => .skip
set_option maxHeartbeats 4000000 in
theorem vc77 : ∀ (s : AsR) (w : Int) (b : Bool), okAs s → okNow w → True ∧ sw (!decide (s.st = (3 : Int))) (s.key = (q30_10 s w b).key ∧ s.win = (q30_10 s w b).win ∧ s.life = (q30_10 s w b).life ∧ s.rto = (q30_10 s w b).rto ∧ s.tries = (q30_10 s w b).tries ∧ s.st = (q30_10 s w b).st ∧ s.mt = (q30_10 s w b).mt ∧ s.pt = (q30_10 s w b).pt ∧ s.ms = (q30_10 s w b).ms ∧ s.ps = (q30_10 s w b).ps ∧ s.ltag = (q30_10 s w b).ltag ∧ s.lch.t = (q30_10 s w b).lch.t ∧ s.lch.f = (q30_10 s w b).lch.f ∧ s.lch.v = (q30_10 s w b).lch.v ∧ s.set = (q30_10 s w b).set ∧ s.at_ = (q30_10 s w b).at_ ∧ s.left = (q30_10 s w b).left ∧ (closeA (q30_0 s) w b).snd.fst.pk.length = (0 : Nat) ∧ (closeA (q30_0 s) w b).snd.fst.ev = [] ∧ (7 : Int) = (closeA (q30_0 s) w b).snd.snd ∧ q30_3) (sw b (((True ∧ (40 : Nat) ≤ (140737488355328 : Nat) ∧ (True ∧ s.key = (q30_10 s w b).key ∧ s.win = (q30_10 s w b).win ∧ s.life = (q30_10 s w b).life ∧ s.rto = (q30_10 s w b).rto ∧ s.tries = (q30_10 s w b).tries ∧ (5 : Int) = (q30_10 s w b).st ∧ s.mt = (q30_10 s w b).mt ∧ s.pt = (q30_10 s w b).pt ∧ s.ms = (q30_10 s w b).ms ∧ s.ps = (q30_10 s w b).ps ∧ s.pt = (q30_10 s w b).ltag ∧ (7 : Int) = (q30_10 s w b).lch.t ∧ (0 : Int) = (q30_10 s w b).lch.f ∧ (q30_10 s w b).lch.v = [] ∧ true = (q30_10 s w b).set ∧ IntKind.i64.wrap (w + s.rto) = (q30_10 s w b).at_ ∧ s.tries = (q30_10 s w b).left ∧ ((1 : Nat) = (closeA (q30_0 s) w b).snd.fst.pk.length ∧ ∀ (i : Nat), i < (1 : Nat) → ∀ (j : Nat), j < q30_5 → (D.v (Value.int IntKind.u32 s.pt) :: D.v (Value.int IntKind.u8 (7 : Int)) :: q30_11).getD (i * q30_5 + j) (D.v undef) = match j with | (0 : Nat) => D.v (Value.int IntKind.u32 ((closeA (q30_0 s) w b).snd.fst.pk.getD i noLtr).tag) | (1 : Nat) => D.v (Value.int IntKind.u8 ((closeA (q30_0 s) w b).snd.fst.pk.getD i noLtr).ch.t) | (2 : Nat) => D.v (Value.int IntKind.u8 ((closeA (q30_0 s) w b).snd.fst.pk.getD i noLtr).ch.f) | _x => D.ints IntKind.u8 ((closeA (q30_0 s) w b).snd.fst.pk.getD i noLtr).ch.v) ∧ (closeA (q30_0 s) w b).snd.fst.ev = [] ∧ (0 : Int) = (closeA (q30_0 s) w b).snd.snd ∧ q30_12) ∧ True) ∧ True) ∧ True) (s.key = (q30_10 s w b).key ∧ s.win = (q30_10 s w b).win ∧ s.life = (q30_10 s w b).life ∧ s.rto = (q30_10 s w b).rto ∧ s.tries = (q30_10 s w b).tries ∧ (4 : Int) = (q30_10 s w b).st ∧ s.mt = (q30_10 s w b).mt ∧ s.pt = (q30_10 s w b).pt ∧ s.ms = (q30_10 s w b).ms ∧ s.ps = (q30_10 s w b).ps ∧ s.ltag = (q30_10 s w b).ltag ∧ s.lch.t = (q30_10 s w b).lch.t ∧ s.lch.f = (q30_10 s w b).lch.f ∧ s.lch.v = (q30_10 s w b).lch.v ∧ s.set = (q30_10 s w b).set ∧ s.at_ = (q30_10 s w b).at_ ∧ s.left = (q30_10 s w b).left ∧ (closeA (q30_0 s) w b).snd.fst.pk.length = (0 : Nat) ∧ (closeA (q30_0 s) w b).snd.fst.ev = [] ∧ (0 : Int) = (closeA (q30_0 s) w b).snd.snd ∧ q30_3)) := by
  delta q30_0 q30_3 q30_5 q30_10 q30_11 q30_12
  simp only [↓sw_iff, ↓decide_eq_true_eq, ↓decide_eq_false_iff_not, ↓Bool.not_eq_true', ↓Bool.not_eq_false', true_and, and_true, as_eta, size150]
  intro s w b hs hw
  simp only [wrap_rto hs hw]
  have hv := sm_lch hs
  refine ⟨fun h => ?_, fun h => ⟨fun h0 => ?_, fun h0 => ?_⟩⟩
  · have e : closeA s w b = (s, noOut, 7) := by
      unfold closeA
      rw [if_pos h]
    rw [e]
    repeat' (first | exact rfl | exact cells1 rfl rfl rfl rfl | exact cells0 | omega | exact ⟨_, rfl, hv⟩ | exact ⟨_, rfl, sm_nil⟩ | apply And.intro)
  · have e : closeA s w b = ((shutA s w).1, (shutA s w).2, 0) := by
      unfold closeA
      rw [if_neg (by simpa using h), if_pos h0]
    rw [e]
    repeat' (first | exact rfl | exact cells1 rfl rfl rfl rfl | exact cells0 | omega | exact ⟨_, rfl, hv⟩ | exact ⟨_, rfl, sm_nil⟩ | apply And.intro)
  · have e : closeA s w b = ({ s with st := 4 }, noOut, 0) := by
      unfold closeA
      rw [if_neg (by simpa using h), if_neg (by simp [h0])]
    rw [e]
    repeat' (first | exact rfl | exact cells1 rfl rfl rfl rfl | exact cells0 | omega | exact ⟨_, rfl, hv⟩ | exact ⟨_, rfl, sm_nil⟩ | apply And.intro)
set_option maxRecDepth 100000 in
theorem ok77 : FnIs Try.prog 77 (closeRC rfO outW) := by
  refine fnIs (C := (ctrsJ Try.prog l2 iR 5)) (by kernel_rfl) (cokJ (by kernel_rfl) l2_ok iR_ok) Try.func77 (code := code77) (by kernel_rfl) (by kernel_rfl) ?_
  rintro a ⟨s, w, b, rfl, hs, hw⟩
  exact ⟨anns [], kcast (vc77 s w b hs hw) (by kernel_rfl)⟩

noncomputable def code79 : Code := match Try.f79.body with | some c => c | none => .skip
set_option maxHeartbeats 4000000 in
theorem vc79 : ∀ (s : AsR) (w : Int), okAs s → okNow w → True ∧ sw (decide (s.st = (4 : Int))) (((True ∧ (40 : Nat) ≤ (140737488355328 : Nat) ∧ (True ∧
  s.key = (q30_13 s w).key ∧ s.win = (q30_13 s w).win ∧ s.life = (q30_13 s w).life ∧ s.rto = (q30_13 s w).rto ∧ s.tries = (q30_13 s w).tries ∧ (5 : Int) = (q30_13 s w).st ∧
  s.mt = (q30_13 s w).mt ∧ s.pt = (q30_13 s w).pt ∧ s.ms = (q30_13 s w).ms ∧ s.ps = (q30_13 s w).ps ∧ s.pt = (q30_13 s w).ltag ∧ (7 : Int) = (q30_13 s w).lch.t ∧
  (0 : Int) = (q30_13 s w).lch.f ∧ (q30_13 s w).lch.v = [] ∧ true = (q30_13 s w).set ∧ IntKind.i64.wrap (w + s.rto) = (q30_13 s w).at_ ∧ s.tries = (q30_13 s w).left ∧
  ((1 : Nat) = (drainA (q30_0 s) w).snd.pk.length ∧ ∀ (i : Nat), i < (1 : Nat) → ∀ (j : Nat), j < q30_5 → (D.v (Value.int IntKind.u32 s.pt) :: D.v (Value.int IntKind.u8 (7 : Int)) :: q30_11).getD (i * q30_5 + j) (D.v undef) = q30_14 j s w i) ∧
  (drainA (q30_0 s) w).snd.ev = [] ∧ q30_12) ∧ True) ∧ True) ∧ True) (True ∧ sw (decide (s.st = (6 : Int))) (((True ∧ (40 : Nat) ≤ (140737488355328 : Nat) ∧
  (True ∧ s.key = (q30_13 s w).key ∧ s.win = (q30_13 s w).win ∧ s.life = (q30_13 s w).life ∧ s.rto = (q30_13 s w).rto ∧ s.tries = (q30_13 s w).tries ∧ (7 : Int) = (q30_13 s w).st ∧
  s.mt = (q30_13 s w).mt ∧ s.pt = (q30_13 s w).pt ∧ s.ms = (q30_13 s w).ms ∧ s.ps = (q30_13 s w).ps ∧ s.pt = (q30_13 s w).ltag ∧ (8 : Int) = (q30_13 s w).lch.t ∧
  (0 : Int) = (q30_13 s w).lch.f ∧ (q30_13 s w).lch.v = [] ∧ true = (q30_13 s w).set ∧ IntKind.i64.wrap (w + s.rto) = (q30_13 s w).at_ ∧ s.tries = (q30_13 s w).left ∧
  ((1 : Nat) = (drainA (q30_0 s) w).snd.pk.length ∧ ∀ (i : Nat), i < (1 : Nat) → ∀ (j : Nat), j < q30_5 → (D.v (Value.int IntKind.u32 s.pt) :: D.v (Value.int IntKind.u8 (8 : Int)) :: q30_11).getD (i * q30_5 + j) (D.v undef) = q30_14 j s w i) ∧
  (drainA (q30_0 s) w).snd.ev = [] ∧ q30_12) ∧ True) ∧ True) ∧ True) (s.key = (q30_13 s w).key ∧ s.win = (q30_13 s w).win ∧ s.life = (q30_13 s w).life ∧ s.rto = (q30_13 s w).rto ∧
  s.tries = (q30_13 s w).tries ∧ s.st = (q30_13 s w).st ∧ s.mt = (q30_13 s w).mt ∧ s.pt = (q30_13 s w).pt ∧ s.ms = (q30_13 s w).ms ∧ s.ps = (q30_13 s w).ps ∧
  s.ltag = (q30_13 s w).ltag ∧ s.lch.t = (q30_13 s w).lch.t ∧ s.lch.f = (q30_13 s w).lch.f ∧ s.lch.v = (q30_13 s w).lch.v ∧ s.set = (q30_13 s w).set ∧ s.at_ = (q30_13 s w).at_ ∧
  s.left = (q30_13 s w).left ∧ (drainA (q30_0 s) w).snd.pk.length = (0 : Nat) ∧ (drainA (q30_0 s) w).snd.ev = [] ∧ q30_3)) := by
  delta q30_0 q30_3 q30_5 q30_11 q30_12 q30_13 q30_14
  simp only [↓sw_iff, ↓decide_eq_true_eq, ↓decide_eq_false_iff_not, true_and, and_true, as_eta, size150]
  intro s w hs hw
  simp only [wrap_rto hs hw]
  have hv := sm_lch hs
  refine ⟨fun h => ?_, fun h => ⟨fun h0 => ?_, fun h0 => ?_⟩⟩
  · have e : drainA s w = shutA s w := by
      unfold drainA
      rw [if_pos h]
    rw [e]
    repeat' (first | exact rfl | exact cells1 rfl rfl rfl rfl | exact cells0 | omega | exact ⟨_, rfl, hv⟩ | exact ⟨_, rfl, sm_nil⟩ | apply And.intro)
  · have e : drainA s w = shacA s w := by
      unfold drainA
      rw [if_neg h, if_pos h0]
    rw [e]
    repeat' (first | exact rfl | exact cells1 rfl rfl rfl rfl | exact cells0 | omega | exact ⟨_, rfl, hv⟩ | exact ⟨_, rfl, sm_nil⟩ | apply And.intro)
  · have e : drainA s w = (s, noOut) := by
      unfold drainA
      rw [if_neg h, if_neg h0]
    rw [e]
    repeat' (first | exact rfl | exact cells1 rfl rfl rfl rfl | exact cells0 | omega | exact ⟨_, rfl, hv⟩ | exact ⟨_, rfl, sm_nil⟩ | apply And.intro)
set_option maxRecDepth 100000 in
theorem ok79 : FnIs Try.prog 79 (drainRC rfO outW) := by
  refine fnIs (C := (ctrsJ Try.prog l2 iR 5)) (by kernel_rfl) (cokJ (by kernel_rfl) l2_ok iR_ok) Try.func79 (code := code79) (by kernel_rfl) (by kernel_rfl) ?_
  rintro a ⟨s, w, rfl, hs, hw⟩
  exact ⟨anns [], kcast (vc79 s w hs hw) (by kernel_rfl)⟩

noncomputable def code81 : Code := match Try.f81.body with | some c => c | none => .skip
set_option maxHeartbeats 4000000 in
theorem vc81 : ∀ (s : AsR), okAs s → True ∧ sw (decide (s.st = (0 : Int))) (s.key = (q30_15 s).key ∧ s.win = (q30_15 s).win ∧ s.life = (q30_15 s).life ∧ s.rto = (q30_15 s).rto ∧ s.tries = (q30_15 s).tries ∧ s.st = (q30_15 s).st ∧ s.mt = (q30_15 s).mt ∧ s.pt = (q30_15 s).pt ∧ s.ms = (q30_15 s).ms ∧ s.ps = (q30_15 s).ps ∧ s.ltag = (q30_15 s).ltag ∧ s.lch.t = (q30_15 s).lch.t ∧ s.lch.f = (q30_15 s).lch.f ∧ s.lch.v = (q30_15 s).lch.v ∧ s.set = (q30_15 s).set ∧ s.at_ = (q30_15 s).at_ ∧ s.left = (q30_15 s).left ∧ q30_16 s) (True ∧ sw (!decide (s.pt = (0 : Int))) (((True ∧ (40 : Nat) ≤ (140737488355328 : Nat) ∧ (True ∧ IntKind.u64.wrap (s.key + (1 : Int)) = (q30_15 s).key ∧ s.win = (q30_15 s).win ∧ s.life = (q30_15 s).life ∧ s.rto = (q30_15 s).rto ∧ s.tries = (q30_15 s).tries ∧ (0 : Int) = (q30_15 s).st ∧ (0 : Int) = (q30_15 s).mt ∧ (0 : Int) = (q30_15 s).pt ∧ (0 : Int) = (q30_15 s).ms ∧ (0 : Int) = (q30_15 s).ps ∧ (0 : Int) = (q30_15 s).ltag ∧ (0 : Int) = (q30_15 s).lch.t ∧ (0 : Int) = (q30_15 s).lch.f ∧ (q30_15 s).lch.v = [] ∧ false = (q30_15 s).set ∧ (0 : Int) = (q30_15 s).at_ ∧ (0 : Int) = (q30_15 s).left ∧ ((1 : Nat) = (abortA (q30_0 s)).snd.pk.length ∧ ∀ (i : Nat), i < (1 : Nat) → ∀ (j : Nat), j < q30_5 → (D.v (Value.int IntKind.u32 s.pt) :: D.v (Value.int IntKind.u8 (6 : Int)) :: q30_11).getD (i * q30_5 + j) (D.v undef) = match j with | (0 : Nat) => D.v (Value.int IntKind.u32 ((abortA (q30_0 s)).snd.pk.getD i noLtr).tag) | (1 : Nat) => D.v (Value.int IntKind.u8 ((abortA (q30_0 s)).snd.pk.getD i noLtr).ch.t) | (2 : Nat) => D.v (Value.int IntKind.u8 ((abortA (q30_0 s)).snd.pk.getD i noLtr).ch.f) | _x => D.ints IntKind.u8 ((abortA (q30_0 s)).snd.pk.getD i noLtr).ch.v) ∧ (abortA (q30_0 s)).snd.ev = [] ∧ q30_9) ∧ True) ∧ True) ∧ True) (True ∧ IntKind.u64.wrap (s.key + (1 : Int)) = (q30_15 s).key ∧ s.win = (q30_15 s).win ∧ s.life = (q30_15 s).life ∧ s.rto = (q30_15 s).rto ∧ s.tries = (q30_15 s).tries ∧ (0 : Int) = (q30_15 s).st ∧ (0 : Int) = (q30_15 s).mt ∧ (0 : Int) = (q30_15 s).pt ∧ (0 : Int) = (q30_15 s).ms ∧ (0 : Int) = (q30_15 s).ps ∧ (0 : Int) = (q30_15 s).ltag ∧ (0 : Int) = (q30_15 s).lch.t ∧ (0 : Int) = (q30_15 s).lch.f ∧ (q30_15 s).lch.v = [] ∧ false = (q30_15 s).set ∧ (0 : Int) = (q30_15 s).at_ ∧ (0 : Int) = (q30_15 s).left ∧ q30_16 s)) := by
  delta q30_0 q30_3 q30_5 q30_9 q30_11 q30_15 q30_16
  simp only [↓sw_iff, ↓decide_eq_true_eq, ↓decide_eq_false_iff_not, ↓Bool.not_eq_true', ↓Bool.not_eq_false', true_and, and_true, as_eta, size150, wrap_key]
  intro s hs
  have hv := sm_lch hs
  refine ⟨fun h => ?_, fun h => ⟨fun h0 => ?_, fun h0 => ?_⟩⟩
  · have e : abortA s = (s, noOut) := by
      unfold abortA
      rw [if_pos h]
    rw [e]
    repeat' (first | exact rfl | exact cells1 rfl rfl rfl rfl | exact cells0 | omega | exact ⟨_, rfl, hv⟩ | exact ⟨_, rfl, sm_nil⟩ | apply And.intro)
  · have e : abortA s = (endA s, sayO s.pt (bareC 6)) := by
      unfold abortA
      rw [if_neg h, if_neg (by simpa using h0)]
    rw [e]
    repeat' (first | exact rfl | exact cells1 rfl rfl rfl rfl | exact cells0 | omega | exact ⟨_, rfl, hv⟩ | exact ⟨_, rfl, sm_nil⟩ | apply And.intro)
  · have e : abortA s = (endA s, noOut) := by
      unfold abortA
      rw [if_neg h, if_pos (by simpa using h0)]
    rw [e]
    repeat' (first | exact rfl | exact cells1 rfl rfl rfl rfl | exact cells0 | omega | exact ⟨_, rfl, hv⟩ | exact ⟨_, rfl, sm_nil⟩ | apply And.intro)
set_option maxRecDepth 100000 in
theorem ok81 : FnIs Try.prog 81 (abortRC rfO outW) := by
  refine fnIs (C := (ctrsJ Try.prog l2 iR 5)) (by kernel_rfl) (cokJ (by kernel_rfl) l2_ok iR_ok) Try.func81 (code := code81) (by kernel_rfl) (by kernel_rfl) ?_
  rintro a ⟨s, rfl, hs⟩
  exact ⟨anns [], kcast (vc81 s hs) (by kernel_rfl)⟩

end Go.ZR
