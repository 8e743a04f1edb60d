/- The watch's methods keep their contracts. -/
import Derived.Test.YtgnfpcjndhnglaaRows
import Derived.Test.YtgnfpcjndhnglaaM
namespace Go.XR
open Go.Proofs
open Go.X Go.XM Go.RowKit
theorem c0_ok : COk Try.prog (ctrs c0) := cok_nil
noncomputable def code40 : Code := match Try.f40.body with | some c => c | none => .skip
theorem vc40 : ∀ (w : Wt),
  True ∧
    (decide (w.s = 4) = true →
        True ∧
          (3 = (goneF { s := w.s, p := w.p, n := w.n : Wt }).s ∧
              false = (goneF { s := w.s, p := w.p, n := w.n : Wt }).p ∧ 0 = (goneF { s := w.s, p := w.p, n := w.n : Wt }).n ∧ True) ∧
            True) ∧
      (decide (w.s = 4) = false →
        True ∧
          (3 = (goneF { s := w.s, p := w.p, n := w.n : Wt }).s ∧
              false = (goneF { s := w.s, p := w.p, n := w.n : Wt }).p ∧ w.n = (goneF { s := w.s, p := w.p, n := w.n : Wt }).n ∧ True) ∧
            True) := by
  rintro ⟨s, p, n⟩
  by_cases h : s = 4 <;> simp [goneF, h]
theorem ok40 : FnIs Try.prog 40 goneC := by
  refine fnIs (C := ctrs c0) (by kernel_rfl) c0_ok Try.func40 (code := code40) (by kernel_rfl) (by kernel_rfl) ?_
  rintro a ⟨w, rfl⟩
  exact ⟨anns [], kcast (vc40 w) (by kernel_rfl)⟩

theorem c1_ok : COk Try.prog (ctrs c1) := cok_cons ok40 cok_nil

noncomputable def code32 : Code := match Try.f32.body with | some c => c | none => .skip
theorem vc32 : ∀ (w : Wt),
  True ∧
    (decide (w.s = 0) = true →
        ((false = (openedF { s := w.s, p := w.p, n := w.n : Wt }).snd.ask ∧
              false = (openedF { s := w.s, p := w.p, n := w.n : Wt }).snd.fail ∧
                false = (openedF { s := w.s, p := w.p, n := w.n : Wt }).snd.back ∧
                  false = (openedF { s := w.s, p := w.p, n := w.n : Wt }).snd.close ∧
                    false = (openedF { s := w.s, p := w.p, n := w.n : Wt }).snd.tri ∧ true = (openedF { s := w.s, p := w.p, n := w.n : Wt }).snd.wind ∧ True) ∧
            True) ∧
          (1 = (openedF { s := w.s, p := w.p, n := w.n : Wt }).fst.s ∧
              false = (openedF { s := w.s, p := w.p, n := w.n : Wt }).fst.p ∧ w.n = (openedF { s := w.s, p := w.p, n := w.n : Wt }).fst.n ∧ True) ∧
            True) ∧
      (decide (w.s = 0) = false →
        True ∧
          (decide (w.s = 3) = true →
              ((true = (openedF { s := w.s, p := w.p, n := w.n : Wt }).snd.ask ∧
                    false = (openedF { s := w.s, p := w.p, n := w.n : Wt }).snd.fail ∧
                      false = (openedF { s := w.s, p := w.p, n := w.n : Wt }).snd.back ∧
                        false = (openedF { s := w.s, p := w.p, n := w.n : Wt }).snd.close ∧
                          false = (openedF { s := w.s, p := w.p, n := w.n : Wt }).snd.tri ∧
                            true = (openedF { s := w.s, p := w.p, n := w.n : Wt }).snd.wind ∧ True) ∧
                  True) ∧
                (4 = (openedF { s := w.s, p := w.p, n := w.n : Wt }).fst.s ∧
                    true = (openedF { s := w.s, p := w.p, n := w.n : Wt }).fst.p ∧ 0 = (openedF { s := w.s, p := w.p, n := w.n : Wt }).fst.n ∧ True) ∧
                  True) ∧
            (decide (w.s = 3) = false →
              ((false = (openedF { s := w.s, p := w.p, n := w.n : Wt }).snd.ask ∧
                    false = (openedF { s := w.s, p := w.p, n := w.n : Wt }).snd.fail ∧
                      false = (openedF { s := w.s, p := w.p, n := w.n : Wt }).snd.back ∧
                        false = (openedF { s := w.s, p := w.p, n := w.n : Wt }).snd.close ∧
                          false = (openedF { s := w.s, p := w.p, n := w.n : Wt }).snd.tri ∧
                            false = (openedF { s := w.s, p := w.p, n := w.n : Wt }).snd.wind ∧ True) ∧
                  True) ∧
                (w.s = (openedF { s := w.s, p := w.p, n := w.n : Wt }).fst.s ∧
                    w.p = (openedF { s := w.s, p := w.p, n := w.n : Wt }).fst.p ∧ w.n = (openedF { s := w.s, p := w.p, n := w.n : Wt }).fst.n ∧ True) ∧
                  True)) := by
  rintro ⟨s, p, n⟩
  by_cases h0 : s = 0
  · simp [openedF, h0]
  · by_cases h3 : s = 3 <;> simp [openedF, noDo, h0, h3]
theorem ok32 : FnIs Try.prog 32 (methC openedF) := by
  refine fnIs (C := ctrs c1) (by kernel_rfl) c1_ok Try.func32 (code := code32) (by kernel_rfl) (by kernel_rfl) ?_
  rintro a ⟨w, rfl⟩
  exact ⟨anns [], kcast (vc32 w) (by kernel_rfl)⟩

noncomputable def code33 : Code := match Try.f33.body with | some c => c | none => .skip
theorem vc33 : ∀ (w : Wt),
  True ∧
    (decide (w.s = 0) = false →
        True ∧
          (decide (w.s = 3) = true →
              ((false = (brokenF { s := w.s, p := w.p, n := w.n : Wt }).snd.ask ∧
                    false = (brokenF { s := w.s, p := w.p, n := w.n : Wt }).snd.fail ∧
                      false = (brokenF { s := w.s, p := w.p, n := w.n : Wt }).snd.back ∧
                        false = (brokenF { s := w.s, p := w.p, n := w.n : Wt }).snd.close ∧
                          false = (brokenF { s := w.s, p := w.p, n := w.n : Wt }).snd.tri ∧
                            false = (brokenF { s := w.s, p := w.p, n := w.n : Wt }).snd.wind ∧ True) ∧
                  True) ∧
                (w.s = (brokenF { s := w.s, p := w.p, n := w.n : Wt }).fst.s ∧
                    w.p = (brokenF { s := w.s, p := w.p, n := w.n : Wt }).fst.p ∧ w.n = (brokenF { s := w.s, p := w.p, n := w.n : Wt }).fst.n ∧ True) ∧
                  True) ∧
            (decide (w.s = 3) = false →
              (∃ (w_1 : Wt),
                  [AD.ptr 49 [D.v (Value.int IntKind.i64 w.s), D.v (Value.bool w.p), D.v (Value.int IntKind.i64 w.n)]] =
                    [AD.ptr 49 [D.v (Value.int IntKind.i64 w_1.s), D.v (Value.bool w_1.p), D.v (Value.int IntKind.i64 w_1.n)]]) ∧
                True ∧
                  ((false = (brokenF { s := w.s, p := w.p, n := w.n : Wt }).snd.ask ∧
                        decide (w.s = 1) = (brokenF { s := w.s, p := w.p, n := w.n : Wt }).snd.fail ∧
                          false = (brokenF { s := w.s, p := w.p, n := w.n : Wt }).snd.back ∧
                            false = (brokenF { s := w.s, p := w.p, n := w.n : Wt }).snd.close ∧
                              false = (brokenF { s := w.s, p := w.p, n := w.n : Wt }).snd.tri ∧
                                true = (brokenF { s := w.s, p := w.p, n := w.n : Wt }).snd.wind ∧ True) ∧
                      True) ∧
                    ((goneF { s := w.s, p := w.p, n := w.n : Wt }).s = (brokenF { s := w.s, p := w.p, n := w.n : Wt }).fst.s ∧
                        (goneF { s := w.s, p := w.p, n := w.n : Wt }).p = (brokenF { s := w.s, p := w.p, n := w.n : Wt }).fst.p ∧
                          (goneF { s := w.s, p := w.p, n := w.n : Wt }).n = (brokenF { s := w.s, p := w.p, n := w.n : Wt }).fst.n ∧ True) ∧
                      True)) ∧
      (decide (w.s = 0) = !false →
        ((false = (brokenF { s := w.s, p := w.p, n := w.n : Wt }).snd.ask ∧
              false = (brokenF { s := w.s, p := w.p, n := w.n : Wt }).snd.fail ∧
                false = (brokenF { s := w.s, p := w.p, n := w.n : Wt }).snd.back ∧
                  false = (brokenF { s := w.s, p := w.p, n := w.n : Wt }).snd.close ∧
                    false = (brokenF { s := w.s, p := w.p, n := w.n : Wt }).snd.tri ∧ false = (brokenF { s := w.s, p := w.p, n := w.n : Wt }).snd.wind ∧ True) ∧
            True) ∧
          (w.s = (brokenF { s := w.s, p := w.p, n := w.n : Wt }).fst.s ∧
              w.p = (brokenF { s := w.s, p := w.p, n := w.n : Wt }).fst.p ∧ w.n = (brokenF { s := w.s, p := w.p, n := w.n : Wt }).fst.n ∧ True) ∧
            True) := by
  rintro ⟨s, p, n⟩
  have ex : ∃ w : Wt, s = w.s ∧ p = w.p ∧ n = w.n := ⟨⟨s, p, n⟩, rfl, rfl, rfl⟩
  by_cases h0 : s = 0
  · simp [brokenF, noDo, h0]
  · by_cases h3 : s = 3
    · simp [brokenF, noDo, h3]
    · simp [brokenF, h0, h3, ex]
theorem ok33 : FnIs Try.prog 33 (methC brokenF) := by
  refine fnIs (C := ctrs c1) (by kernel_rfl) c1_ok Try.func33 (code := code33) (by kernel_rfl) (by kernel_rfl) ?_
  rintro a ⟨w, rfl⟩
  exact ⟨anns [], kcast (vc33 w) (by kernel_rfl)⟩

noncomputable def code34 : Code := match Try.f34.body with | some c => c | none => .skip
theorem vc34 : ∀ (w : Wt) (b : Bool),
  -1 ≤ w.n ∧ w.n ≤ 3 →
    True ∧
      (decide (w.s = 1) = true →
          (w.p = true →
              ((false = (heardF { s := w.s, p := w.p, n := w.n : Wt } b).snd.ask ∧
                    false = (heardF { s := w.s, p := w.p, n := w.n : Wt } b).snd.fail ∧
                      false = (heardF { s := w.s, p := w.p, n := w.n : Wt } b).snd.back ∧
                        false = (heardF { s := w.s, p := w.p, n := w.n : Wt } b).snd.close ∧
                          false = (heardF { s := w.s, p := w.p, n := w.n : Wt } b).snd.tri ∧
                            true = (heardF { s := w.s, p := w.p, n := w.n : Wt } b).snd.wind ∧ True) ∧
                  True) ∧
                (w.s = (heardF { s := w.s, p := w.p, n := w.n : Wt } b).fst.s ∧
                    (!b) = (heardF { s := w.s, p := w.p, n := w.n : Wt } b).fst.p ∧ w.n = (heardF { s := w.s, p := w.p, n := w.n : Wt } b).fst.n ∧ True) ∧
                  True) ∧
            (w.p = !true →
              ((false = (heardF { s := w.s, p := w.p, n := w.n : Wt } b).snd.ask ∧
                    false = (heardF { s := w.s, p := w.p, n := w.n : Wt } b).snd.fail ∧
                      false = (heardF { s := w.s, p := w.p, n := w.n : Wt } b).snd.back ∧
                        false = (heardF { s := w.s, p := w.p, n := w.n : Wt } b).snd.close ∧
                          false = (heardF { s := w.s, p := w.p, n := w.n : Wt } b).snd.tri ∧
                            true = (heardF { s := w.s, p := w.p, n := w.n : Wt } b).snd.wind ∧ True) ∧
                  True) ∧
                (w.s = (heardF { s := w.s, p := w.p, n := w.n : Wt } b).fst.s ∧
                    false = (heardF { s := w.s, p := w.p, n := w.n : Wt } b).fst.p ∧ w.n = (heardF { s := w.s, p := w.p, n := w.n : Wt } b).fst.n ∧ True) ∧
                  True)) ∧
        (decide (w.s = 1) = false →
          True ∧
            (decide (w.s = 2) = true →
                (w.p = true →
                    ((false = (heardF { s := w.s, p := w.p, n := w.n : Wt } b).snd.ask ∧
                          false = (heardF { s := w.s, p := w.p, n := w.n : Wt } b).snd.fail ∧
                            true = (heardF { s := w.s, p := w.p, n := w.n : Wt } b).snd.back ∧
                              false = (heardF { s := w.s, p := w.p, n := w.n : Wt } b).snd.close ∧
                                false = (heardF { s := w.s, p := w.p, n := w.n : Wt } b).snd.tri ∧
                                  true = (heardF { s := w.s, p := w.p, n := w.n : Wt } b).snd.wind ∧ True) ∧
                        True) ∧
                      (1 = (heardF { s := w.s, p := w.p, n := w.n : Wt } b).fst.s ∧
                          (!b) = (heardF { s := w.s, p := w.p, n := w.n : Wt } b).fst.p ∧ w.n = (heardF { s := w.s, p := w.p, n := w.n : Wt } b).fst.n ∧ True) ∧
                        True) ∧
                  (w.p = !true →
                    ((false = (heardF { s := w.s, p := w.p, n := w.n : Wt } b).snd.ask ∧
                          false = (heardF { s := w.s, p := w.p, n := w.n : Wt } b).snd.fail ∧
                            true = (heardF { s := w.s, p := w.p, n := w.n : Wt } b).snd.back ∧
                              false = (heardF { s := w.s, p := w.p, n := w.n : Wt } b).snd.close ∧
                                false = (heardF { s := w.s, p := w.p, n := w.n : Wt } b).snd.tri ∧
                                  true = (heardF { s := w.s, p := w.p, n := w.n : Wt } b).snd.wind ∧ True) ∧
                        True) ∧
                      (1 = (heardF { s := w.s, p := w.p, n := w.n : Wt } b).fst.s ∧
                          false = (heardF { s := w.s, p := w.p, n := w.n : Wt } b).fst.p ∧
                            w.n = (heardF { s := w.s, p := w.p, n := w.n : Wt } b).fst.n ∧ True) ∧
                        True)) ∧
              (decide (w.s = 2) = false →
                True ∧
                  (decide (w.s = 4) = true →
                      ((!b) = true →
                          ((false = (heardF { s := w.s, p := w.p, n := w.n : Wt } b).snd.ask ∧
                                false = (heardF { s := w.s, p := w.p, n := w.n : Wt } b).snd.fail ∧
                                  false = (heardF { s := w.s, p := w.p, n := w.n : Wt } b).snd.back ∧
                                    false = (heardF { s := w.s, p := w.p, n := w.n : Wt } b).snd.close ∧
                                      false = (heardF { s := w.s, p := w.p, n := w.n : Wt } b).snd.tri ∧
                                        false = (heardF { s := w.s, p := w.p, n := w.n : Wt } b).snd.wind ∧ True) ∧
                              True) ∧
                            (w.s = (heardF { s := w.s, p := w.p, n := w.n : Wt } b).fst.s ∧
                                w.p = (heardF { s := w.s, p := w.p, n := w.n : Wt } b).fst.p ∧
                                  w.n = (heardF { s := w.s, p := w.p, n := w.n : Wt } b).fst.n ∧ True) ∧
                              True) ∧
                        ((!b) = false →
                          True ∧
                            (decide (w.n < 2) = true →
                                True ∧
                                  ((false = (heardF { s := w.s, p := w.p, n := w.n : Wt } b).snd.ask ∧
                                        false = (heardF { s := w.s, p := w.p, n := w.n : Wt } b).snd.fail ∧
                                          false = (heardF { s := w.s, p := w.p, n := w.n : Wt } b).snd.back ∧
                                            false = (heardF { s := w.s, p := w.p, n := w.n : Wt } b).snd.close ∧
                                              false = (heardF { s := w.s, p := w.p, n := w.n : Wt } b).snd.tri ∧
                                                false = (heardF { s := w.s, p := w.p, n := w.n : Wt } b).snd.wind ∧ True) ∧
                                      True) ∧
                                    (w.s = (heardF { s := w.s, p := w.p, n := w.n : Wt } b).fst.s ∧
                                        false = (heardF { s := w.s, p := w.p, n := w.n : Wt } b).fst.p ∧
                                          IntKind.i64.wrap (w.n + 1) = (heardF { s := w.s, p := w.p, n := w.n : Wt } b).fst.n ∧ True) ∧
                                      True) ∧
                              (decide (w.n < 2) = false →
                                ((false = (heardF { s := w.s, p := w.p, n := w.n : Wt } b).snd.ask ∧
                                      false = (heardF { s := w.s, p := w.p, n := w.n : Wt } b).snd.fail ∧
                                        true = (heardF { s := w.s, p := w.p, n := w.n : Wt } b).snd.back ∧
                                          false = (heardF { s := w.s, p := w.p, n := w.n : Wt } b).snd.close ∧
                                            false = (heardF { s := w.s, p := w.p, n := w.n : Wt } b).snd.tri ∧
                                              true = (heardF { s := w.s, p := w.p, n := w.n : Wt } b).snd.wind ∧ True) ∧
                                    True) ∧
                                  (1 = (heardF { s := w.s, p := w.p, n := w.n : Wt } b).fst.s ∧
                                      false = (heardF { s := w.s, p := w.p, n := w.n : Wt } b).fst.p ∧
                                        0 = (heardF { s := w.s, p := w.p, n := w.n : Wt } b).fst.n ∧ True) ∧
                                    True))) ∧
                    (decide (w.s = 4) = false →
                      ((false = (heardF { s := w.s, p := w.p, n := w.n : Wt } b).snd.ask ∧
                            false = (heardF { s := w.s, p := w.p, n := w.n : Wt } b).snd.fail ∧
                              false = (heardF { s := w.s, p := w.p, n := w.n : Wt } b).snd.back ∧
                                false = (heardF { s := w.s, p := w.p, n := w.n : Wt } b).snd.close ∧
                                  false = (heardF { s := w.s, p := w.p, n := w.n : Wt } b).snd.tri ∧
                                    false = (heardF { s := w.s, p := w.p, n := w.n : Wt } b).snd.wind ∧ True) ∧
                          True) ∧
                        (w.s = (heardF { s := w.s, p := w.p, n := w.n : Wt } b).fst.s ∧
                            w.p = (heardF { s := w.s, p := w.p, n := w.n : Wt } b).fst.p ∧
                              w.n = (heardF { s := w.s, p := w.p, n := w.n : Wt } b).fst.n ∧ True) ∧
                          True))) := by
  rintro ⟨s, p, n⟩ b ⟨hn1, hn2⟩
  have hw : IntKind.i64.wrap (n + 1) = n + 1 := IntWalk.i64_in _ (by simp at hn1 hn2; omega)
  by_cases h1 : s = 1
  · cases p <;> cases b <;> simp [heardF, h1]
  · by_cases h2 : s = 2
    · cases p <;> cases b <;> simp [heardF, h2]
    · by_cases h4 : s = 4
      · by_cases hn : n < 2
        · cases b <;> simp [heardF, noDo, h4, hn, hw]
        · cases b <;> simp [heardF, noDo, h4, hn]
      · simp [heardF, noDo, h1, h2, h4]
theorem ok34 : FnIs Try.prog 34 heardC := by
  refine fnIs (C := ctrs c1) (by kernel_rfl) c1_ok Try.func34 (code := code34) (by kernel_rfl) (by kernel_rfl) ?_
  rintro a ⟨w, b, rfl, h⟩
  exact ⟨anns [], kcast (vc34 w b h) (by kernel_rfl)⟩

noncomputable def code35 : Code := match Try.f35.body with | some c => c | none => .skip
theorem vc35 : ∀ (w : Wt),
  True ∧
    (decide (w.s = 0) = false →
        True ∧
          (decide (w.s = 3) = true →
              ((false = (alarmF { s := w.s, p := w.p, n := w.n : Wt }).snd.ask ∧
                    false = (alarmF { s := w.s, p := w.p, n := w.n : Wt }).snd.fail ∧
                      false = (alarmF { s := w.s, p := w.p, n := w.n : Wt }).snd.back ∧
                        false = (alarmF { s := w.s, p := w.p, n := w.n : Wt }).snd.close ∧
                          true = (alarmF { s := w.s, p := w.p, n := w.n : Wt }).snd.tri ∧
                            true = (alarmF { s := w.s, p := w.p, n := w.n : Wt }).snd.wind ∧ True) ∧
                  True) ∧
                (w.s = (alarmF { s := w.s, p := w.p, n := w.n : Wt }).fst.s ∧
                    w.p = (alarmF { s := w.s, p := w.p, n := w.n : Wt }).fst.p ∧ w.n = (alarmF { s := w.s, p := w.p, n := w.n : Wt }).fst.n ∧ True) ∧
                  True) ∧
            (decide (w.s = 3) = false →
              True ∧
                (decide (w.s = 2) = false →
                    True ∧
                      (decide (w.s = 4) = true →
                          (w.p = true →
                              True ∧
                                (decide (w.n < 0) = true →
                                    (∃ (w_1 : Wt),
                                        [AD.ptr 49 [D.v (Value.int IntKind.i64 w.s), D.v (Value.bool w.p), D.v (Value.int IntKind.i64 w.n)]] =
                                          [AD.ptr 49 [D.v (Value.int IntKind.i64 w_1.s), D.v (Value.bool w_1.p), D.v (Value.int IntKind.i64 w_1.n)]]) ∧
                                      ((false = (alarmF { s := w.s, p := w.p, n := w.n : Wt }).snd.ask ∧
                                            false = (alarmF { s := w.s, p := w.p, n := w.n : Wt }).snd.fail ∧
                                              false = (alarmF { s := w.s, p := w.p, n := w.n : Wt }).snd.back ∧
                                                true = (alarmF { s := w.s, p := w.p, n := w.n : Wt }).snd.close ∧
                                                  false = (alarmF { s := w.s, p := w.p, n := w.n : Wt }).snd.tri ∧
                                                    true = (alarmF { s := w.s, p := w.p, n := w.n : Wt }).snd.wind ∧ True) ∧
                                          True) ∧
                                        ((goneF { s := w.s, p := w.p, n := w.n : Wt }).s = (alarmF { s := w.s, p := w.p, n := w.n : Wt }).fst.s ∧
                                            (goneF { s := w.s, p := w.p, n := w.n : Wt }).p = (alarmF { s := w.s, p := w.p, n := w.n : Wt }).fst.p ∧
                                              (goneF { s := w.s, p := w.p, n := w.n : Wt }).n = (alarmF { s := w.s, p := w.p, n := w.n : Wt }).fst.n ∧ True) ∧
                                          True) ∧
                                  (decide (w.n < 0) = false →
                                    ((!w.p) = true →
                                        ((true = (alarmF { s := w.s, p := w.p, n := w.n : Wt }).snd.ask ∧
                                              false = (alarmF { s := w.s, p := w.p, n := w.n : Wt }).snd.fail ∧
                                                false = (alarmF { s := w.s, p := w.p, n := w.n : Wt }).snd.back ∧
                                                  false = (alarmF { s := w.s, p := w.p, n := w.n : Wt }).snd.close ∧
                                                    false = (alarmF { s := w.s, p := w.p, n := w.n : Wt }).snd.tri ∧
                                                      true = (alarmF { s := w.s, p := w.p, n := w.n : Wt }).snd.wind ∧ True) ∧
                                            True) ∧
                                          (w.s = (alarmF { s := w.s, p := w.p, n := w.n : Wt }).fst.s ∧
                                              true = (alarmF { s := w.s, p := w.p, n := w.n : Wt }).fst.p ∧
                                                w.n = (alarmF { s := w.s, p := w.p, n := w.n : Wt }).fst.n ∧ True) ∧
                                            True) ∧
                                      ((!w.p) = false →
                                        True ∧
                                          (decide (w.s = 1) = true →
                                              ((false = (alarmF { s := w.s, p := w.p, n := w.n : Wt }).snd.ask ∧
                                                    true = (alarmF { s := w.s, p := w.p, n := w.n : Wt }).snd.fail ∧
                                                      false = (alarmF { s := w.s, p := w.p, n := w.n : Wt }).snd.back ∧
                                                        false = (alarmF { s := w.s, p := w.p, n := w.n : Wt }).snd.close ∧
                                                          false = (alarmF { s := w.s, p := w.p, n := w.n : Wt }).snd.tri ∧
                                                            true = (alarmF { s := w.s, p := w.p, n := w.n : Wt }).snd.wind ∧ True) ∧
                                                  True) ∧
                                                (2 = (alarmF { s := w.s, p := w.p, n := w.n : Wt }).fst.s ∧
                                                    w.p = (alarmF { s := w.s, p := w.p, n := w.n : Wt }).fst.p ∧
                                                      w.n = (alarmF { s := w.s, p := w.p, n := w.n : Wt }).fst.n ∧ True) ∧
                                                  True) ∧
                                            (decide (w.s = 1) = false →
                                              ((false = (alarmF { s := w.s, p := w.p, n := w.n : Wt }).snd.ask ∧
                                                    false = (alarmF { s := w.s, p := w.p, n := w.n : Wt }).snd.fail ∧
                                                      false = (alarmF { s := w.s, p := w.p, n := w.n : Wt }).snd.back ∧
                                                        false = (alarmF { s := w.s, p := w.p, n := w.n : Wt }).snd.close ∧
                                                          false = (alarmF { s := w.s, p := w.p, n := w.n : Wt }).snd.tri ∧
                                                            true = (alarmF { s := w.s, p := w.p, n := w.n : Wt }).snd.wind ∧ True) ∧
                                                  True) ∧
                                                (w.s = (alarmF { s := w.s, p := w.p, n := w.n : Wt }).fst.s ∧
                                                    w.p = (alarmF { s := w.s, p := w.p, n := w.n : Wt }).fst.p ∧
                                                      -1 = (alarmF { s := w.s, p := w.p, n := w.n : Wt }).fst.n ∧ True) ∧
                                                  True)))) ∧
                            (w.p = !true →
                              ((!w.p) = true →
                                  ((true = (alarmF { s := w.s, p := w.p, n := w.n : Wt }).snd.ask ∧
                                        false = (alarmF { s := w.s, p := w.p, n := w.n : Wt }).snd.fail ∧
                                          false = (alarmF { s := w.s, p := w.p, n := w.n : Wt }).snd.back ∧
                                            false = (alarmF { s := w.s, p := w.p, n := w.n : Wt }).snd.close ∧
                                              false = (alarmF { s := w.s, p := w.p, n := w.n : Wt }).snd.tri ∧
                                                true = (alarmF { s := w.s, p := w.p, n := w.n : Wt }).snd.wind ∧ True) ∧
                                      True) ∧
                                    (w.s = (alarmF { s := w.s, p := w.p, n := w.n : Wt }).fst.s ∧
                                        true = (alarmF { s := w.s, p := w.p, n := w.n : Wt }).fst.p ∧
                                          w.n = (alarmF { s := w.s, p := w.p, n := w.n : Wt }).fst.n ∧ True) ∧
                                      True) ∧
                                ((!w.p) = false →
                                  True ∧
                                    (decide (w.s = 1) = true →
                                        ((false = (alarmF { s := w.s, p := w.p, n := w.n : Wt }).snd.ask ∧
                                              true = (alarmF { s := w.s, p := w.p, n := w.n : Wt }).snd.fail ∧
                                                false = (alarmF { s := w.s, p := w.p, n := w.n : Wt }).snd.back ∧
                                                  false = (alarmF { s := w.s, p := w.p, n := w.n : Wt }).snd.close ∧
                                                    false = (alarmF { s := w.s, p := w.p, n := w.n : Wt }).snd.tri ∧
                                                      true = (alarmF { s := w.s, p := w.p, n := w.n : Wt }).snd.wind ∧ True) ∧
                                            True) ∧
                                          (2 = (alarmF { s := w.s, p := w.p, n := w.n : Wt }).fst.s ∧
                                              w.p = (alarmF { s := w.s, p := w.p, n := w.n : Wt }).fst.p ∧
                                                w.n = (alarmF { s := w.s, p := w.p, n := w.n : Wt }).fst.n ∧ True) ∧
                                            True) ∧
                                      (decide (w.s = 1) = false →
                                        ((false = (alarmF { s := w.s, p := w.p, n := w.n : Wt }).snd.ask ∧
                                              false = (alarmF { s := w.s, p := w.p, n := w.n : Wt }).snd.fail ∧
                                                false = (alarmF { s := w.s, p := w.p, n := w.n : Wt }).snd.back ∧
                                                  false = (alarmF { s := w.s, p := w.p, n := w.n : Wt }).snd.close ∧
                                                    false = (alarmF { s := w.s, p := w.p, n := w.n : Wt }).snd.tri ∧
                                                      true = (alarmF { s := w.s, p := w.p, n := w.n : Wt }).snd.wind ∧ True) ∧
                                            True) ∧
                                          (w.s = (alarmF { s := w.s, p := w.p, n := w.n : Wt }).fst.s ∧
                                              w.p = (alarmF { s := w.s, p := w.p, n := w.n : Wt }).fst.p ∧
                                                -1 = (alarmF { s := w.s, p := w.p, n := w.n : Wt }).fst.n ∧ True) ∧
                                            True)))) ∧
                        (decide (w.s = 4) = !true →
                          ((!w.p) = true →
                              ((true = (alarmF { s := w.s, p := w.p, n := w.n : Wt }).snd.ask ∧
                                    false = (alarmF { s := w.s, p := w.p, n := w.n : Wt }).snd.fail ∧
                                      false = (alarmF { s := w.s, p := w.p, n := w.n : Wt }).snd.back ∧
                                        false = (alarmF { s := w.s, p := w.p, n := w.n : Wt }).snd.close ∧
                                          false = (alarmF { s := w.s, p := w.p, n := w.n : Wt }).snd.tri ∧
                                            true = (alarmF { s := w.s, p := w.p, n := w.n : Wt }).snd.wind ∧ True) ∧
                                  True) ∧
                                (w.s = (alarmF { s := w.s, p := w.p, n := w.n : Wt }).fst.s ∧
                                    true = (alarmF { s := w.s, p := w.p, n := w.n : Wt }).fst.p ∧
                                      w.n = (alarmF { s := w.s, p := w.p, n := w.n : Wt }).fst.n ∧ True) ∧
                                  True) ∧
                            ((!w.p) = false →
                              True ∧
                                (decide (w.s = 1) = true →
                                    ((false = (alarmF { s := w.s, p := w.p, n := w.n : Wt }).snd.ask ∧
                                          true = (alarmF { s := w.s, p := w.p, n := w.n : Wt }).snd.fail ∧
                                            false = (alarmF { s := w.s, p := w.p, n := w.n : Wt }).snd.back ∧
                                              false = (alarmF { s := w.s, p := w.p, n := w.n : Wt }).snd.close ∧
                                                false = (alarmF { s := w.s, p := w.p, n := w.n : Wt }).snd.tri ∧
                                                  true = (alarmF { s := w.s, p := w.p, n := w.n : Wt }).snd.wind ∧ True) ∧
                                        True) ∧
                                      (2 = (alarmF { s := w.s, p := w.p, n := w.n : Wt }).fst.s ∧
                                          w.p = (alarmF { s := w.s, p := w.p, n := w.n : Wt }).fst.p ∧
                                            w.n = (alarmF { s := w.s, p := w.p, n := w.n : Wt }).fst.n ∧ True) ∧
                                        True) ∧
                                  (decide (w.s = 1) = false →
                                    ((false = (alarmF { s := w.s, p := w.p, n := w.n : Wt }).snd.ask ∧
                                          false = (alarmF { s := w.s, p := w.p, n := w.n : Wt }).snd.fail ∧
                                            false = (alarmF { s := w.s, p := w.p, n := w.n : Wt }).snd.back ∧
                                              false = (alarmF { s := w.s, p := w.p, n := w.n : Wt }).snd.close ∧
                                                false = (alarmF { s := w.s, p := w.p, n := w.n : Wt }).snd.tri ∧
                                                  true = (alarmF { s := w.s, p := w.p, n := w.n : Wt }).snd.wind ∧ True) ∧
                                        True) ∧
                                      (w.s = (alarmF { s := w.s, p := w.p, n := w.n : Wt }).fst.s ∧
                                          w.p = (alarmF { s := w.s, p := w.p, n := w.n : Wt }).fst.p ∧
                                            -1 = (alarmF { s := w.s, p := w.p, n := w.n : Wt }).fst.n ∧ True) ∧
                                        True)))) ∧
                  (decide (w.s = 2) = !false →
                    (∃ (w_1 : Wt),
                        [AD.ptr 49 [D.v (Value.int IntKind.i64 w.s), D.v (Value.bool w.p), D.v (Value.int IntKind.i64 w.n)]] =
                          [AD.ptr 49 [D.v (Value.int IntKind.i64 w_1.s), D.v (Value.bool w_1.p), D.v (Value.int IntKind.i64 w_1.n)]]) ∧
                      ((false = (alarmF { s := w.s, p := w.p, n := w.n : Wt }).snd.ask ∧
                            false = (alarmF { s := w.s, p := w.p, n := w.n : Wt }).snd.fail ∧
                              false = (alarmF { s := w.s, p := w.p, n := w.n : Wt }).snd.back ∧
                                true = (alarmF { s := w.s, p := w.p, n := w.n : Wt }).snd.close ∧
                                  false = (alarmF { s := w.s, p := w.p, n := w.n : Wt }).snd.tri ∧
                                    true = (alarmF { s := w.s, p := w.p, n := w.n : Wt }).snd.wind ∧ True) ∧
                          True) ∧
                        ((goneF { s := w.s, p := w.p, n := w.n : Wt }).s = (alarmF { s := w.s, p := w.p, n := w.n : Wt }).fst.s ∧
                            (goneF { s := w.s, p := w.p, n := w.n : Wt }).p = (alarmF { s := w.s, p := w.p, n := w.n : Wt }).fst.p ∧
                              (goneF { s := w.s, p := w.p, n := w.n : Wt }).n = (alarmF { s := w.s, p := w.p, n := w.n : Wt }).fst.n ∧ True) ∧
                          True))) ∧
      (decide (w.s = 0) = !false →
        ((false = (alarmF { s := w.s, p := w.p, n := w.n : Wt }).snd.ask ∧
              false = (alarmF { s := w.s, p := w.p, n := w.n : Wt }).snd.fail ∧
                false = (alarmF { s := w.s, p := w.p, n := w.n : Wt }).snd.back ∧
                  false = (alarmF { s := w.s, p := w.p, n := w.n : Wt }).snd.close ∧
                    true = (alarmF { s := w.s, p := w.p, n := w.n : Wt }).snd.tri ∧ true = (alarmF { s := w.s, p := w.p, n := w.n : Wt }).snd.wind ∧ True) ∧
            True) ∧
          (w.s = (alarmF { s := w.s, p := w.p, n := w.n : Wt }).fst.s ∧
              w.p = (alarmF { s := w.s, p := w.p, n := w.n : Wt }).fst.p ∧ w.n = (alarmF { s := w.s, p := w.p, n := w.n : Wt }).fst.n ∧ True) ∧
            True) := by
  rintro ⟨s, p, n⟩
  by_cases h0 : s = 0
  · simp [alarmF, h0]
  · by_cases h3 : s = 3
    · simp [alarmF, h3]
    · by_cases h2 : s = 2
      · simp [alarmF, h2]
        exact ⟨⟨2, p, n⟩, rfl, rfl, rfl⟩
      · by_cases h1 : s = 1
        · cases p <;> simp [alarmF, h1]
        · by_cases h4 : s = 4
          · by_cases hn : n < 0
            · cases p <;> simp [alarmF, h4, hn]
              exact ⟨⟨4, true, n⟩, rfl, rfl, rfl⟩
            · cases p <;> simp [alarmF, h4, hn]
          · cases p <;> simp [alarmF, h0, h1, h2, h3, h4]
theorem ok35 : FnIs Try.prog 35 (methC alarmF) := by
  refine fnIs (C := ctrs c1) (by kernel_rfl) c1_ok Try.func35 (code := code35) (by kernel_rfl) (by kernel_rfl) ?_
  rintro a ⟨w, rfl⟩
  exact ⟨anns [], kcast (vc35 w) (by kernel_rfl)⟩

end Go.XR
