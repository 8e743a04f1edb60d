/- Part 17 of what the closing text rests on. -/
import Derived.Test.YtlbfenfepmmihaaI16
import Derived.Test.YtlbfenfepmmihaaRows
namespace Go.ZR
open Go.Proofs
open Go.Z Go.ZM Go.RowKit
set_option maxRecDepth 100000
theorem wrap_succ {g n : Nat} (h : g ≤ n) (hn : n ≤ 1099511627776) : IntKind.i64.wrap ((g : Int) + 1) = ((g + 1 : Nat) : Int) := by
  rw [wrap_i64_id (by omega) (by omega)]
  omega
theorem sameCh_self (c : ChR) : sameCh c c = true := by simp [sameCh]
noncomputable def iFc111 : Code := match Try.f111.body with | some c => c | none => .skip
noncomputable def iF_111 : InlF := ⟨iFc111, Try.f111.ntmps, Try.f111.results.toList, anns []⟩
noncomputable def iFc112 : Code := match Try.f112.body with | some c => c | none => .skip
noncomputable def iF_112 : InlF := ⟨iFc112, Try.f112.ntmps, Try.f112.results.toList, anns []⟩
noncomputable def iF : List (Nat × InlF) := [(111, iF_111), (112, iF_112)]
theorem iF_ok : InlsOk Try.prog iF := ⟨inlOk Try.func111 (by kernel_rfl) (by kernel_rfl), inlOk Try.func112 (by kernel_rfl) (by kernel_rfl), trivial⟩
noncomputable def code117 : Code := match Try.f117.body with | some c => c | none => .skip
@[reducible] noncomputable def q117_0 (x0 : Nat) : Int := (↑x0 : Int)
@[reducible] def q117_1 : Prop := true = true
@[reducible] noncomputable def q117_2 (x0 : List Int) : Int := (↑x0.length : Int)
@[reducible] noncomputable def q117_3 (x0 : Nat) (x1 : List Int) : Bool := decide (q117_0 x0 < q117_2 x1)
@[reducible] def q117_4 (x0 : Nat) (x1 : List Int) : Prop := [q117_3 x0 x1] = [q117_3 x0 x1]
@[reducible] noncomputable def q117_5 (x0 : List Int) (x1 : Nat) : Int := x0.getD (q117_0 x1).toNat (0 : Int)
@[reducible] def q117_6 (x0 : List Int) : Prop := some (R.ro (D.ints IntKind.i64 x0)) = some (R.ro (D.ints IntKind.i64 x0))
set_option maxHeartbeats 4000000 in
theorem vc117 : ∀ (l : List Int), sm l.length → ∃ (g0 : Nat), g0 ≤ l.length ∧ (0 : Int) = q117_0 g0 ∧ q117_1 ∧ ∀ (g : Nat), g ≤ l.length → True ∧ sw (q117_3 g l) (SV.c (Value.int IntKind.i64 (q117_0 g)) = SV.c (Value.int IntKind.i64 (q117_0 g))) True ∧
  sw (q117_3 g l) (SV.a (1 : Nat) = SV.a (1 : Nat)) True ∧ sw (q117_3 g l) (q117_4 g l ∧ SV.c (Value.int IntKind.i64 (q117_2 l)) = SV.c (Value.int IntKind.i64 (q117_2 l))) True ∧
  sw (q117_3 g l) (q117_4 g l ∧ q117_4 g l ∧ True ∧ SV.c (Value.bool (q117_3 g l)) = SV.c (Value.bool (q117_3 g l))) True ∧ q117_4 g l ∧ sw (q117_3 g l && q117_3 g l) (((0 : Int) ≤ q117_0 g ∧
  q117_0 g < q117_2 l) ∧ ((0 : Int) ≤ q117_0 g ∧ q117_0 g < q117_2 l) ∧ True ∧ sw (!decide (q117_5 l g = q117_5 l g)) (false = true ∧ q117_1) (True ∧ ∃ (g' : Nat), g' ≤ l.length ∧
  l.length - g' < l.length - g ∧ (IntKind.i64.wrap (q117_0 g + (1 : Int)) = q117_0 g' ∧ (true && true && true) = true) ∧ (some (SV.a (0 : Nat)) = some (SV.a (0 : Nat)) ∧
  some (SV.a (1 : Nat)) = some (SV.a (1 : Nat)) ∧ True) ∧ q117_6 l ∧ q117_6 l ∧ True)) (True ∧ decide (q117_2 l = q117_2 l) = true ∧ q117_1) := by
  delta q117_0 q117_1 q117_2 q117_3 q117_4 q117_5 q117_6
  intro l hl
  refine ⟨0, Nat.zero_le _, rfl, rfl, fun g hg => ?_⟩
  have hw := wrap_succ hg hl
  simp only [sw_iff, hw, decide_eq_true_eq, decide_eq_false_iff_not, Bool.and_self, and_true, true_and, implies_true]
  repeat' (first | exact rfl | exact trivial | omega | (intro h; exact absurd h (by decide)) | exact ⟨g + 1, by omega, by omega, rfl⟩ | intro _ | apply And.intro)
set_option maxRecDepth 100000 in
theorem ok117 : FnIs Try.prog 117 sintsC := by
  refine fnIs (C := (ctrs c0)) (by kernel_rfl) c0_ok Try.func117 (code := code117) (by kernel_rfl) (by kernel_rfl) ?_
  rintro a ⟨l, rfl, hl⟩
  exact ⟨anns [(2, cntA 5 l.length)] [], kcast (vc117 l hl) (by kernel_rfl)⟩

theorem l3_ok : COk Try.prog (ctrs l3) := cok_cons ok117 (cok_cons ok118 cok_nil)

noncomputable def code71 : Code := match Try.f71.body with | some c => c | none => .skip
@[reducible] noncomputable def q71_0 (x0 : OutR) : Int := (↑x0.pk.length : Int)
@[reducible] noncomputable def q71_1 (x0 : OutR) : Bool := !decide (q71_0 x0 = q71_0 x0)
@[reducible] def q71_2 : Prop := true = true
@[reducible] noncomputable def q71_3 (x0 : Nat) : Int := (↑x0 : Int)
@[reducible] noncomputable def q71_4 (x0 : OutR) (x1 : Nat) : Int := (x0.pk.getD (q71_3 x1).toNat noLtr).tag
@[reducible] noncomputable def q71_5 (x0 : OutR) (x1 : Nat) : ChR := (x0.pk.getD (q71_3 x1).toNat noLtr).ch
@[reducible] noncomputable def q71_6 (x0 : OutR) (x1 : Nat) : O := O.agg [iO .u8 (q71_5 x0 x1).t, iO .u8 (q71_5 x0 x1).f, O.d (D.ints IntKind.u8 (q71_5 x0 x1).v)]
@[reducible] noncomputable def q71_7 (x0 : ChR) : O := O.agg [iO .u8 x0.t, iO .u8 x0.f, O.d (D.ints IntKind.u8 x0.v)]
@[reducible] def q71_8 : Prop := some (SV.c (Value.bool false)) = some (SV.c (Value.bool false))
@[reducible] def q71_9 (x0 : OutR) : Prop := some (SV.c (Value.int IntKind.i64 (q71_0 x0))) = some (SV.c (Value.int IntKind.i64 (q71_0 x0)))
@[reducible] def q71_10 : Prop := some (SV.p (5 : Nat) (0 : Nat)) = some (SV.p (5 : Nat) (0 : Nat))
@[reducible] def q71_11 : Prop := some (SV.p (4 : Nat) (0 : Nat)) = some (SV.p (4 : Nat) (0 : Nat))
@[reducible] def q71_12 (x0 : OutR) : Prop := some (R.ro (D.ints IntKind.i64 x0.ev)) = some (R.ro (D.ints IntKind.i64 x0.ev))
@[reducible] def q71_13 (x0 : OutR) : Prop := some (R.ro (D.recs 4 x0.pk.length (ltrCell x0.pk))) = some (R.ro (D.recs 4 x0.pk.length (ltrCell x0.pk)))
set_option maxHeartbeats 4000000 in
theorem vc71 : ∀ (o : OutR), okO o → True ∧ sw (q71_1 o) (false = true ∧ q71_2) ((∃ (l : List Int), [O.d (D.ints IntKind.i64 o.ev), O.d (D.ints IntKind.i64 o.ev)] = [O.d (D.ints IntKind.i64 l), O.d (D.ints IntKind.i64 l)] ∧
  sm l.length) ∧ ∃ (g0 : Nat), g0 ≤ o.pk.length ∧ (0 : Int) = q71_3 g0 ∧ q71_2 ∧ ∀ (g : Nat), g ≤ o.pk.length → True ∧ sw (decide (q71_3 g < q71_0 o)) (((0 : Int) ≤ q71_3 g ∧
  q71_3 g < q71_0 o) ∧ ((0 : Int) ≤ q71_3 g ∧ q71_3 g < q71_0 o) ∧ True ∧ sw (!decide (q71_4 o g = q71_4 o g)) (false = true ∧ q71_2) (((0 : Int) ≤ q71_3 g ∧
  q71_3 g < q71_0 o) ∧ ((0 : Int) ≤ q71_3 g ∧ q71_3 g < q71_0 o) ∧ (∃ (c : ChR), ∃ (d : ChR), [q71_6 o g, q71_6 o g] = [q71_7 c, q71_7 d]) ∧ sw (!sameCh (q71_5 o g) (q71_5 o g)) (false = true ∧
  q71_2) (True ∧ ∃ (g' : Nat), g' ≤ o.pk.length ∧ o.pk.length - g' < o.pk.length - g ∧ (IntKind.i64.wrap (q71_3 g + (1 : Int)) = q71_3 g' ∧ (true && true && true) = true) ∧
  (q71_8 ∧ q71_8 ∧ some (SV.c (Value.bool true)) = some (SV.c (Value.bool true)) ∧ some (SV.a (3 : Nat)) = some (SV.a (3 : Nat)) ∧ some (SV.p (5 : Nat) (1 : Nat)) = some (SV.p (5 : Nat) (1 : Nat)) ∧
  some (SV.a (1 : Nat)) = some (SV.a (1 : Nat)) ∧ some (SV.p (4 : Nat) (1 : Nat)) = some (SV.p (4 : Nat) (1 : Nat)) ∧ some (SV.b false) = some (SV.b false) ∧
  some (SV.c (Value.bool (q71_1 o))) = some (SV.c (Value.bool (q71_1 o))) ∧ q71_9 o ∧ some (SV.a (2 : Nat)) = some (SV.a (2 : Nat)) ∧ q71_10 ∧ q71_9 o ∧ some (SV.a (0 : Nat)) = some (SV.a (0 : Nat)) ∧
  q71_11 ∧ q71_10 ∧ q71_11 ∧ some (SV.agg [SV.a (0 : Nat), SV.a (1 : Nat)]) = some (SV.agg [SV.a (0 : Nat), SV.a (1 : Nat)]) ∧ some (SV.agg [SV.a (2 : Nat), SV.a (3 : Nat)]) = some (SV.agg [SV.a (2 : Nat), SV.a (3 : Nat)]) ∧
  True) ∧ some (R.blk (69 : Nat) [SV.a (2 : Nat), SV.a (3 : Nat)]) = some (R.blk (69 : Nat) [SV.a (2 : Nat), SV.a (3 : Nat)]) ∧ some (R.blk (65 : Nat) [SV.a (0 : Nat), SV.a (1 : Nat)]) = some (R.blk (65 : Nat) [SV.a (0 : Nat), SV.a (1 : Nat)]) ∧
  q71_12 o ∧ q71_13 o ∧ q71_12 o ∧ q71_13 o ∧ True))) (true = true ∧ q71_2)) := by
  delta q71_0 q71_1 q71_2 q71_3 q71_4 q71_5 q71_6 q71_7 q71_8 q71_9 q71_10 q71_11 q71_12 q71_13 iO
  intro o ho
  have h1 : sm o.ev.length := by have := evs_len ho.2.2; unfold sm; omega
  have h2 : o.pk.length ≤ 1099511627776 := by have := ho.2.1; omega
  simp only [sw_iff, sameCh_self, decide_eq_true_eq, decide_eq_false_iff_not, Bool.and_self, Bool.not_true, and_true, true_and, implies_true]
  repeat' (first | exact rfl | exact trivial | omega | (intro h; exact absurd h (by decide)) | exact ⟨_, rfl, h1⟩ | (refine ⟨0, Nat.zero_le _, rfl, ?_⟩; intro g hg; have hw := wrap_succ hg h2; simp only [hw]) | exact ⟨(o.pk.getD _ noLtr).ch, (o.pk.getD _ noLtr).ch, rfl⟩ | exact ⟨_ + 1, by omega, by omega, rfl⟩ | intro _ | apply And.intro)
set_option maxRecDepth 100000 in
theorem ok71 : FnIs Try.prog 71 sameOC := by
  refine fnIs (C := (ctrs l3)) (by kernel_rfl) l3_ok Try.func71 (code := code71) (by kernel_rfl) (by kernel_rfl) ?_
  rintro a ⟨o, rfl, ho⟩
  exact ⟨anns [(4, cntA 5 o.pk.length)] [1, 6], kcast (vc71 o ho) (by kernel_rfl)⟩

noncomputable def code33 : Code := match Try.f33.body with | some c => c | none => .skip
set_option maxHeartbeats 4000000 in
theorem vc33 : ∀ (s : AsR), s.mt = s.mt ∧ s.pt = s.pt ∧ true = true := by
  intro s
  exact ⟨rfl, rfl, rfl⟩
set_option maxRecDepth 100000 in
theorem ok33 : FnIs Try.prog 33 tagsC := by
  refine fnIs (C := (ctrs c0)) (by kernel_rfl) c0_ok Try.func33 (code := code33) (by kernel_rfl) (by kernel_rfl) ?_
  rintro a ⟨s, rfl⟩
  exact ⟨anns [], kcast (vc33 s) (by kernel_rfl)⟩

noncomputable def code34 : Code := match Try.f34.body with | some c => c | none => .skip
set_option maxHeartbeats 4000000 in
theorem vc34 : ∀ (s : AsR), s.ms = s.ms ∧ s.ps = s.ps ∧ true = true := by
  intro s
  exact ⟨rfl, rfl, rfl⟩
set_option maxRecDepth 100000 in
theorem ok34 : FnIs Try.prog 34 firstsC := by
  refine fnIs (C := (ctrs c0)) (by kernel_rfl) c0_ok Try.func34 (code := code34) (by kernel_rfl) (by kernel_rfl) ?_
  rintro a ⟨s, rfl⟩
  exact ⟨anns [], kcast (vc34 s) (by kernel_rfl)⟩

noncomputable def code35 : Code := match Try.f35.body with | some c => c | none => .skip
set_option maxHeartbeats 4000000 in
theorem vc35 : ∀ (s : AsR), s.st = s.st ∧ true = true := by
  intro s
  exact ⟨rfl, rfl⟩
set_option maxRecDepth 100000 in
theorem ok35 : FnIs Try.prog 35 stateC := by
  refine fnIs (C := (ctrs c0)) (by kernel_rfl) c0_ok Try.func35 (code := code35) (by kernel_rfl) (by kernel_rfl) ?_
  rintro a ⟨s, rfl⟩
  exact ⟨anns [], kcast (vc35 s) (by kernel_rfl)⟩

theorem l5_ok : COk Try.prog (ctrs l5) := cok_cons ok33 (cok_cons ok34 (cok_cons ok35 cok_nil))

noncomputable def code72 : Code := match Try.f72.body with | some c => c | none => .skip
@[reducible] def q72_0 (x0 : AsR) : Prop := ∃ (s_1 : AsR), [O.d (D.ptr 148 (19 : Nat) fun (i : Nat) => [D.v (Value.int IntKind.u64 x0.key), D.v (Value.int IntKind.u32 x0.win), D.v (Value.int IntKind.i64 x0.life), D.v (Value.int IntKind.i64 x0.rto), D.v (Value.int IntKind.i64 x0.tries), D.v (Value.int IntKind.u32 x0.ltag), D.v (Value.int IntKind.u8 x0.lch.t), D.v (Value.int IntKind.u8 x0.lch.f), D.ints IntKind.u8 x0.lch.v, D.v (Value.int IntKind.i64 x0.at_), D.v (Value.int IntKind.i64 x0.left), D.v (Value.bool x0.set), D.v (Value.int IntKind.i64 x0.st), D.v (Value.int IntKind.u32 x0.mt), D.v (Value.int IntKind.u32 x0.ms), D.v (Value.int IntKind.u32 x0.pt), D.v (Value.int IntKind.u32 x0.ps), D.recs 4 (0 : Nat) (ltrCell noOut.pk), D.ints IntKind.i64 noOut.ev].getD i (D.v undef))] = [O.d (D.ptr 148 (19 : Nat) fun (i : Nat) => [D.v (Value.int IntKind.u64 s_1.key), D.v (Value.int IntKind.u32 s_1.win), D.v (Value.int IntKind.i64 s_1.life), D.v (Value.int IntKind.i64 s_1.rto), D.v (Value.int IntKind.i64 s_1.tries), D.v (Value.int IntKind.u32 s_1.ltag), D.v (Value.int IntKind.u8 s_1.lch.t), D.v (Value.int IntKind.u8 s_1.lch.f), D.ints IntKind.u8 s_1.lch.v, D.v (Value.int IntKind.i64 s_1.at_), D.v (Value.int IntKind.i64 s_1.left), D.v (Value.bool s_1.set), D.v (Value.int IntKind.i64 s_1.st), D.v (Value.int IntKind.u32 s_1.mt), D.v (Value.int IntKind.u32 s_1.ms), D.v (Value.int IntKind.u32 s_1.pt), D.v (Value.int IntKind.u32 s_1.ps), D.recs 4 (0 : Nat) (ltrCell []), D.ints IntKind.i64 []].getD i (D.v undef))]
@[reducible] def q72_1 : Prop := (0 : Nat) = (0 : Nat) ∧ ∀ (i : Nat), i < (0 : Nat) → ∀ (j : Nat), j < (4 : Nat) → ltrCell noOut.pk i j = ltrCell noOut.pk i j
@[reducible] def q72_2 : Prop := (true && true && true) = true
@[reducible] def q72_3 (x0 : AsR) : Prop := x0.key = x0.key ∧ x0.win = x0.win ∧ x0.life = x0.life ∧ x0.rto = x0.rto ∧ x0.tries = x0.tries ∧ x0.ltag = x0.ltag ∧
  x0.lch.t = x0.lch.t ∧ x0.lch.f = x0.lch.f ∧ x0.lch.v = x0.lch.v ∧ x0.at_ = x0.at_ ∧ x0.left = x0.left ∧ x0.set = x0.set ∧ x0.st = x0.st ∧ x0.mt = x0.mt ∧
  x0.ms = x0.ms ∧ x0.pt = x0.pt ∧ x0.ps = x0.ps ∧ q72_1 ∧ noOut.ev = noOut.ev ∧ x0.key = x0.key ∧ x0.win = x0.win ∧ x0.life = x0.life ∧ x0.rto = x0.rto ∧
  x0.tries = x0.tries ∧ x0.st = x0.st ∧ x0.mt = x0.mt ∧ x0.pt = x0.pt ∧ x0.ms = x0.ms ∧ x0.ps = x0.ps ∧ x0.ltag = x0.ltag ∧ x0.lch.t = x0.lch.t ∧ x0.lch.f = x0.lch.f ∧
  x0.lch.v = x0.lch.v ∧ x0.set = x0.set ∧ x0.at_ = x0.at_ ∧ x0.left = x0.left ∧ false = true ∧ q72_2
set_option maxHeartbeats 4000000 in
theorem vc72 : ∀ (s : AsR), q72_0 s ∧ q72_0 s ∧ q72_0 s ∧ True ∧ sw (decide (s.st = s.st)) (True ∧ sw (decide (s.mt = s.mt)) (True ∧ sw (decide (s.pt = s.pt)) (True ∧
  sw (decide (s.ms = s.ms)) (True ∧ s.key = s.key ∧ s.win = s.win ∧ s.life = s.life ∧ s.rto = s.rto ∧ s.tries = s.tries ∧ s.ltag = s.ltag ∧ s.lch.t = s.lch.t ∧
  s.lch.f = s.lch.f ∧ s.lch.v = s.lch.v ∧ s.at_ = s.at_ ∧ s.left = s.left ∧ s.set = s.set ∧ s.st = s.st ∧ s.mt = s.mt ∧ s.ms = s.ms ∧ s.pt = s.pt ∧ s.ps = s.ps ∧
  q72_1 ∧ noOut.ev = noOut.ev ∧ s.key = s.key ∧ s.win = s.win ∧ s.life = s.life ∧ s.rto = s.rto ∧ s.tries = s.tries ∧ s.st = s.st ∧ s.mt = s.mt ∧ s.pt = s.pt ∧
  s.ms = s.ms ∧ s.ps = s.ps ∧ s.ltag = s.ltag ∧ s.lch.t = s.lch.t ∧ s.lch.f = s.lch.f ∧ s.lch.v = s.lch.v ∧ s.set = s.set ∧ s.at_ = s.at_ ∧ s.left = s.left ∧
  decide (s.ps = s.ps) = true ∧ q72_2) (q72_3 s)) (q72_3 s)) (q72_3 s)) (q72_3 s) := by
  delta q72_0 q72_1 q72_2 q72_3
  intro s
  have hs : ∀ (T : Nat) (x : AsR), (∃ s : AsR, [O.d (asD x)] = [O.d (asD s)]) := fun _ x => ⟨x, rfl⟩
  simp only [sw_iff]
  repeat' (first | exact ⟨s, rfl⟩ | exact rfl | exact trivial | (intro h; exact absurd h (by decide)) | intro _ | apply And.intro)
set_option maxRecDepth 100000 in
theorem ok72 : FnIs Try.prog 72 likeC := by
  refine fnIs (C := (ctrs l5)) (by kernel_rfl) l5_ok Try.func72 (code := code72) (by kernel_rfl) (by kernel_rfl) ?_
  rintro a ⟨s, rfl⟩
  exact ⟨anns [] [3], kcast (vc72 s) (by kernel_rfl)⟩

noncomputable def code124 : Code := match Try.f124.body with | some c => c | none => .skip
set_option maxHeartbeats 4000000 in
theorem vc124 : ∀ (c : ChR), sm c.v.length → True ∧ ((0 : Nat) + c.v.length) * Try.prog.types[5].bytes ≤ (140737488355328 : Nat) ∧ c.t = c.t ∧ c.f = c.f ∧
  [] ++ c.v = c.v ∧ true = true := by
  simp only [true_and, and_true, Nat.zero_add, List.nil_append]
  intro c hc
  have e : Try.prog.types[(5 : Nat)].bytes = 1 := by kernel_rfl
  rw [e]
  unfold sm at hc
  omega
set_option maxRecDepth 100000 in
theorem ok124 : FnIs Try.prog 124 ownCC := by
  refine fnIs (C := (ctrs c0)) (by kernel_rfl) c0_ok Try.func124 (code := code124) (by kernel_rfl) (by kernel_rfl) ?_
  rintro a ⟨c, rfl, hc⟩
  exact ⟨anns [], kcast (vc124 c hc) (by kernel_rfl)⟩

noncomputable def code66 : Code := match Try.f66.body with | some c => c | none => .skip
@[reducible] noncomputable def q66_0 (x0 : Int) : Bool := decide (x0 < (1 : Int))
@[reducible] def q66_1 (x0 : Int) : Prop := [!q66_0 x0] = [!q66_0 x0]
@[reducible] def q66_2 (x0 : Int) : Prop := SV.c (Value.int IntKind.i64 x0) = SV.c (Value.int IntKind.i64 x0)
@[reducible] def q66_3 (x0 : Int) : Prop := True ∧ SV.c (Value.bool (decide ((1048576 : Int) < x0))) = SV.c (Value.bool (decide ((1048576 : Int) < x0)))
@[reducible] noncomputable def q66_4 (x0 : Int) : Bool := !(q66_0 x0 || decide ((1048576 : Int) < x0))
@[reducible] noncomputable def q66_5 (x0 : Int) (x1 : Int) : Bool := !(q66_0 x0 || decide ((1048576 : Int) < x0) || q66_0 x1)
@[reducible] noncomputable def q66_6 (x0 : Int) (x1 : Int) : Bool := q66_0 x0 || decide ((1048576 : Int) < x0) || q66_0 x1 || decide ((1048576 : Int) < x1)
@[reducible] def q66_7 (x0 : Int) (x1 : Int) : Prop := [!q66_6 x0 x1] = [!q66_6 x0 x1]
@[reducible] noncomputable def q66_8 (x0 : Int) (x1 : Int) (x2 : Int) : Bool := !(q66_6 x0 x1 || decide (x2 < (0 : Int)))
set_option maxHeartbeats 4000000 in
theorem vc66 : ∀ (k l r t : Int), (1 : Int) ≤ l ∧ l ≤ (1048576 : Int) → (1 : Int) ≤ r ∧ r ≤ (1048576 : Int) → (0 : Int) ≤ t ∧ t ≤ (100 : Int) → True ∧ sw (!q66_0 l) (SV.p (1 : Nat) (2 : Nat) = SV.p (1 : Nat) (2 : Nat)) True ∧
  sw (!q66_0 l) (q66_1 l ∧ q66_2 l) True ∧ sw (!q66_0 l) (q66_1 l ∧ q66_3 l) True ∧ q66_1 l ∧ sw (q66_4 l) (SV.p (1 : Nat) (3 : Nat) = SV.p (1 : Nat) (3 : Nat)) True ∧
  sw (q66_4 l) ([q66_4 l] = [q66_4 l] ∧ q66_2 r) True ∧ sw (q66_4 l) ([q66_4 l] = [q66_4 l] ∧ True ∧ SV.c (Value.bool (q66_0 r)) = SV.c (Value.bool (q66_0 r))) True ∧
  [q66_4 l] = [q66_4 l] ∧ sw (q66_5 l r) (SV.p (1 : Nat) (3 : Nat) = SV.p (1 : Nat) (3 : Nat)) True ∧ sw (q66_5 l r) ([q66_5 l r] = [q66_5 l r] ∧ q66_2 r) True ∧
  sw (q66_5 l r) ([q66_5 l r] = [q66_5 l r] ∧ q66_3 r) True ∧ [q66_5 l r] = [q66_5 l r] ∧ sw (!q66_6 l r) (SV.p (1 : Nat) (4 : Nat) = SV.p (1 : Nat) (4 : Nat)) True ∧
  sw (!q66_6 l r) (q66_7 l r ∧ q66_2 t) True ∧ sw (!q66_6 l r) (q66_7 l r ∧ True ∧ SV.c (Value.bool (decide (t < (0 : Int)))) = SV.c (Value.bool (decide (t < (0 : Int))))) True ∧
  q66_7 l r ∧ sw (q66_8 l r t) (SV.p (1 : Nat) (4 : Nat) = SV.p (1 : Nat) (4 : Nat)) True ∧ sw (q66_8 l r t) ([q66_8 l r t] = [q66_8 l r t] ∧ q66_2 t) True ∧
  sw (q66_8 l r t) ([q66_8 l r t] = [q66_8 l r t] ∧ True ∧ SV.c (Value.bool (decide ((100 : Int) < t))) = SV.c (Value.bool (decide ((100 : Int) < t)))) True ∧
  [q66_8 l r t] = [q66_8 l r t] ∧ sw (q66_6 l r || decide (t < (0 : Int)) || decide ((100 : Int) < t)) (True ∧ False) (True ∧ k = (newG k l r t).key ∧ (9000 : Int) = (newG k l r t).win ∧
  l = (newG k l r t).life ∧ r = (newG k l r t).rto ∧ t = (newG k l r t).tries ∧ (0 : Int) = (newG k l r t).ltag ∧ (0 : Int) = (newG k l r t).lch.t ∧ (0 : Int) = (newG k l r t).lch.f ∧
  (newG k l r t).lch.v = [] ∧ (0 : Int) = (newG k l r t).at_ ∧ (0 : Int) = (newG k l r t).left ∧ false = (newG k l r t).set ∧ (0 : Int) = (newG k l r t).st ∧
  (0 : Int) = (newG k l r t).mt ∧ (0 : Int) = (newG k l r t).ms ∧ (0 : Int) = (newG k l r t).pt ∧ (0 : Int) = (newG k l r t).ps ∧ (0 : Nat) = (0 : Nat) ∧
  noOut.ev = [] ∧ k = (newG k l r t).key ∧ (9000 : Int) = (newG k l r t).win ∧ l = (newG k l r t).life ∧ r = (newG k l r t).rto ∧ t = (newG k l r t).tries ∧
  (0 : Int) = (newG k l r t).st ∧ (0 : Int) = (newG k l r t).mt ∧ (0 : Int) = (newG k l r t).pt ∧ (0 : Int) = (newG k l r t).ms ∧ (0 : Int) = (newG k l r t).ps ∧
  (0 : Int) = (newG k l r t).ltag ∧ (0 : Int) = (newG k l r t).lch.t ∧ (0 : Int) = (newG k l r t).lch.f ∧ (newG k l r t).lch.v = [] ∧ false = (newG k l r t).set ∧
  (0 : Int) = (newG k l r t).at_ ∧ (0 : Int) = (newG k l r t).left ∧ (true && true && true) = true) := by
  delta q66_0 q66_1 q66_2 q66_3 q66_4 q66_5 q66_6 q66_7 q66_8
  intro k l r t hl hr ht
  have h1 : decide (l < 1) = false := decide_eq_false (by omega)
  have h2 : decide ((1048576 : Int) < l) = false := decide_eq_false (by omega)
  have h3 : decide (r < 1) = false := decide_eq_false (by omega)
  have h4 : decide ((1048576 : Int) < r) = false := decide_eq_false (by omega)
  have h5 : decide (t < 0) = false := decide_eq_false (by omega)
  have h6 : decide ((100 : Int) < t) = false := decide_eq_false (by omega)
  simp only [sw_iff, h1, h2, h3, h4, h5, h6, Bool.or_false, Bool.not_false]
  repeat' (first | exact rfl | exact trivial | (intro h; exact absurd h (by decide)) | intro _ | apply And.intro)
set_option maxRecDepth 100000 in
theorem ok66 : FnIs Try.prog 66 freshPC := by
  refine fnIs (C := (ctrsJ Try.prog c0 iF 3)) (by kernel_rfl) (cokJ (by kernel_rfl) c0_ok iF_ok) Try.func66 (code := code66) (by kernel_rfl) (by kernel_rfl) ?_
  rintro a ⟨k, l, r, t, rfl, hl, hr, ht⟩
  exact ⟨anns [], kcast (vc66 k l r t hl hr ht) (by kernel_rfl)⟩

end Go.ZR
