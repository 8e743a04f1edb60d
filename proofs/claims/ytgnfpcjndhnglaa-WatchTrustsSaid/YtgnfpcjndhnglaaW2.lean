/- The watch's step, the document's table, and the statement WatchSteps. -/
import Derived.Test.YtgnfpcjndhnglaaRows
import Derived.Test.YtgnfpcjndhnglaaM
import Derived.Test.YtgnfpcjndhnglaaW1
namespace Go.XR
open Go.Proofs
open Go.X Go.XM Go.RowKit
theorem c2_ok : COk Try.prog (ctrs c2) := cok_cons ok32 (cok_cons ok33 (cok_cons ok34 (cok_cons ok35 cok_nil)))

/-- The step is the document's table. -/
theorem steps_eq (w : Wt) (e : Int) : (stepF w e).1.s = (watchedF w e).1.s ∧ (stepF w e).1.p = (watchedF w e).1.p ∧ (stepF w e).1.n = (watchedF w e).1.n ∧
    bitsF (stepF w e).2.1 = (watchedF w e).2.1 ∧ (stepF w e).2.2 = (watchedF w e).2.2 := by
  obtain ⟨s, p, n⟩ := w
  by_cases hr : s < 0 ∨ s > 4 ∨ n < -1 ∨ n > 3 ∨ e < 1 ∨ e > 5
  · simp [stepF, watchedF, hr, noDo, bitsF]
  · simp only [stepF, watchedF]
    rw [if_neg hr, if_neg hr]
    have he : e = 1 ∨ e = 2 ∨ e = 3 ∨ e = 4 ∨ e = 5 := by omega
    have hs : s = 0 ∨ s = 1 ∨ s = 2 ∨ s = 3 ∨ s = 4 := by omega
    have hn : n = -1 ∨ n = 0 ∨ n = 1 ∨ n = 2 ∨ n = 3 := by omega
    clear hr
    rcases he with rfl | rfl | rfl | rfl | rfl <;> rcases hs with rfl | rfl | rfl | rfl | rfl <;> cases p <;> rcases hn with rfl | rfl | rfl | rfl | rfl <;>
      simp [openedF, brokenF, heardF, alarmF, goneF, noDo, bitsF, tableF]
noncomputable def code19 : Code := match Try.f19.body with | some c => c | none => .skip
theorem vc19 : ∀ (w : Wt) (e : Int),
  True ∧
    (decide (w.s < 0) = false →
        True ∧
          (decide (4 < w.s) = false →
              True ∧
                (decide (w.n < -1) = false →
                    True ∧
                      (decide (3 < w.n) = false →
                          True ∧
                            (decide (e < 1) = false →
                                True ∧
                                  (decide (5 < e) = true →
                                      ((0 = (stepF { s := w.s, p := w.p, n := w.n : Wt } e).fst.s ∧
                                            false = (stepF { s := w.s, p := w.p, n := w.n : Wt } e).fst.p ∧
                                              0 = (stepF { s := w.s, p := w.p, n := w.n : Wt } e).fst.n ∧ True) ∧
                                          (false = (stepF { s := w.s, p := w.p, n := w.n : Wt } e).snd.fst.ask ∧
                                              false = (stepF { s := w.s, p := w.p, n := w.n : Wt } e).snd.fst.fail ∧
                                                false = (stepF { s := w.s, p := w.p, n := w.n : Wt } e).snd.fst.back ∧
                                                  false = (stepF { s := w.s, p := w.p, n := w.n : Wt } e).snd.fst.close ∧
                                                    false = (stepF { s := w.s, p := w.p, n := w.n : Wt } e).snd.fst.tri ∧
                                                      false = (stepF { s := w.s, p := w.p, n := w.n : Wt } e).snd.fst.wind ∧ True) ∧
                                            1 = (stepF { s := w.s, p := w.p, n := w.n : Wt } e).snd.snd ∧ True) ∧
                                        True) ∧
                                    (decide (5 < e) = false →
                                      True ∧
                                        (decide (e = 1) = true →
                                            (∃ (w_1 : Wt),
                                                [AD.ptr 49 [D.v (Value.int IntKind.i64 w.s), D.v (Value.bool w.p), D.v (Value.int IntKind.i64 w.n)]] =
                                                  [AD.ptr 49 [D.v (Value.int IntKind.i64 w_1.s), D.v (Value.bool w_1.p), D.v (Value.int IntKind.i64 w_1.n)]]) ∧
                                              (((((openedF { s := w.s, p := w.p, n := w.n : Wt }).fst.s =
                                                          (stepF { s := w.s, p := w.p, n := w.n : Wt } e).fst.s ∧
                                                        (openedF { s := w.s, p := w.p, n := w.n : Wt }).fst.p =
                                                            (stepF { s := w.s, p := w.p, n := w.n : Wt } e).fst.p ∧
                                                          (openedF { s := w.s, p := w.p, n := w.n : Wt }).fst.n =
                                                              (stepF { s := w.s, p := w.p, n := w.n : Wt } e).fst.n ∧
                                                            True) ∧
                                                      ((openedF { s := w.s, p := w.p, n := w.n : Wt }).snd.ask =
                                                            (stepF { s := w.s, p := w.p, n := w.n : Wt } e).snd.fst.ask ∧
                                                          (openedF { s := w.s, p := w.p, n := w.n : Wt }).snd.fail =
                                                              (stepF { s := w.s, p := w.p, n := w.n : Wt } e).snd.fst.fail ∧
                                                            (openedF { s := w.s, p := w.p, n := w.n : Wt }).snd.back =
                                                                (stepF { s := w.s, p := w.p, n := w.n : Wt } e).snd.fst.back ∧
                                                              (openedF { s := w.s, p := w.p, n := w.n : Wt }).snd.close =
                                                                  (stepF { s := w.s, p := w.p, n := w.n : Wt } e).snd.fst.close ∧
                                                                (openedF { s := w.s, p := w.p, n := w.n : Wt }).snd.tri =
                                                                    (stepF { s := w.s, p := w.p, n := w.n : Wt } e).snd.fst.tri ∧
                                                                  (openedF { s := w.s, p := w.p, n := w.n : Wt }).snd.wind =
                                                                      (stepF { s := w.s, p := w.p, n := w.n : Wt } e).snd.fst.wind ∧
                                                                    True) ∧
                                                        0 = (stepF { s := w.s, p := w.p, n := w.n : Wt } e).snd.snd ∧ True) ∧
                                                    True) ∧
                                                  True) ∧
                                                True) ∧
                                          (decide (e = 1) = false →
                                            True ∧
                                              (decide (e = 2) = true →
                                                  (∃ (w_1 : Wt),
                                                      [AD.ptr 49 [D.v (Value.int IntKind.i64 w.s), D.v (Value.bool w.p), D.v (Value.int IntKind.i64 w.n)]] =
                                                        [AD.ptr 49
                                                            [D.v (Value.int IntKind.i64 w_1.s), D.v (Value.bool w_1.p), D.v (Value.int IntKind.i64 w_1.n)]]) ∧
                                                    (((((brokenF { s := w.s, p := w.p, n := w.n : Wt }).fst.s =
                                                                (stepF { s := w.s, p := w.p, n := w.n : Wt } e).fst.s ∧
                                                              (brokenF { s := w.s, p := w.p, n := w.n : Wt }).fst.p =
                                                                  (stepF { s := w.s, p := w.p, n := w.n : Wt } e).fst.p ∧
                                                                (brokenF { s := w.s, p := w.p, n := w.n : Wt }).fst.n =
                                                                    (stepF { s := w.s, p := w.p, n := w.n : Wt } e).fst.n ∧
                                                                  True) ∧
                                                            ((brokenF { s := w.s, p := w.p, n := w.n : Wt }).snd.ask =
                                                                  (stepF { s := w.s, p := w.p, n := w.n : Wt } e).snd.fst.ask ∧
                                                                (brokenF { s := w.s, p := w.p, n := w.n : Wt }).snd.fail =
                                                                    (stepF { s := w.s, p := w.p, n := w.n : Wt } e).snd.fst.fail ∧
                                                                  (brokenF { s := w.s, p := w.p, n := w.n : Wt }).snd.back =
                                                                      (stepF { s := w.s, p := w.p, n := w.n : Wt } e).snd.fst.back ∧
                                                                    (brokenF { s := w.s, p := w.p, n := w.n : Wt }).snd.close =
                                                                        (stepF { s := w.s, p := w.p, n := w.n : Wt } e).snd.fst.close ∧
                                                                      (brokenF { s := w.s, p := w.p, n := w.n : Wt }).snd.tri =
                                                                          (stepF { s := w.s, p := w.p, n := w.n : Wt } e).snd.fst.tri ∧
                                                                        (brokenF { s := w.s, p := w.p, n := w.n : Wt }).snd.wind =
                                                                            (stepF { s := w.s, p := w.p, n := w.n : Wt } e).snd.fst.wind ∧
                                                                          True) ∧
                                                              0 = (stepF { s := w.s, p := w.p, n := w.n : Wt } e).snd.snd ∧ True) ∧
                                                          True) ∧
                                                        True) ∧
                                                      True) ∧
                                                (decide (e = 2) = false →
                                                  True ∧
                                                    (decide (e = 3) = true →
                                                        (decide (e = 3) = true →
                                                            True ∧
                                                              (∃ (w_1 : Wt),
                                                                  ∃ (b : Bool),
                                                                    [AD.ptr 49
                                                                            [D.v (Value.int IntKind.i64 w.s), D.v (Value.bool w.p),
                                                                              D.v (Value.int IntKind.i64 w.n)],
                                                                          AD.v (Value.bool (decide (e = 3)))] =
                                                                        [AD.ptr 49
                                                                            [D.v (Value.int IntKind.i64 w_1.s), D.v (Value.bool w_1.p),
                                                                              D.v (Value.int IntKind.i64 w_1.n)],
                                                                          AD.v (Value.bool b)] ∧
                                                                      -1 ≤ w_1.n ∧ w_1.n ≤ 3) ∧
                                                                (((((heardF { s := w.s, p := w.p, n := w.n : Wt } (decide (e = 3))).fst.s =
                                                                            (stepF { s := w.s, p := w.p, n := w.n : Wt } e).fst.s ∧
                                                                          (heardF { s := w.s, p := w.p, n := w.n : Wt } (decide (e = 3))).fst.p =
                                                                              (stepF { s := w.s, p := w.p, n := w.n : Wt } e).fst.p ∧
                                                                            (heardF { s := w.s, p := w.p, n := w.n : Wt } (decide (e = 3))).fst.n =
                                                                                (stepF { s := w.s, p := w.p, n := w.n : Wt } e).fst.n ∧
                                                                              True) ∧
                                                                        ((heardF { s := w.s, p := w.p, n := w.n : Wt } (decide (e = 3))).snd.ask =
                                                                              (stepF { s := w.s, p := w.p, n := w.n : Wt } e).snd.fst.ask ∧
                                                                            (heardF { s := w.s, p := w.p, n := w.n : Wt } (decide (e = 3))).snd.fail =
                                                                                (stepF { s := w.s, p := w.p, n := w.n : Wt } e).snd.fst.fail ∧
                                                                              (heardF { s := w.s, p := w.p, n := w.n : Wt } (decide (e = 3))).snd.back =
                                                                                  (stepF { s := w.s, p := w.p, n := w.n : Wt } e).snd.fst.back ∧
                                                                                (heardF { s := w.s, p := w.p, n := w.n : Wt } (decide (e = 3))).snd.close =
                                                                                    (stepF { s := w.s, p := w.p, n := w.n : Wt } e).snd.fst.close ∧
                                                                                  (heardF { s := w.s, p := w.p, n := w.n : Wt } (decide (e = 3))).snd.tri =
                                                                                      (stepF { s := w.s, p := w.p, n := w.n : Wt } e).snd.fst.tri ∧
                                                                                    (heardF { s := w.s, p := w.p, n := w.n : Wt } (decide (e = 3))).snd.wind =
                                                                                        (stepF { s := w.s, p := w.p, n := w.n : Wt } e).snd.fst.wind ∧
                                                                                      True) ∧
                                                                          0 = (stepF { s := w.s, p := w.p, n := w.n : Wt } e).snd.snd ∧ True) ∧
                                                                      True) ∧
                                                                    True) ∧
                                                                  True) ∧
                                                          (decide (e = 3) = false →
                                                            True ∧
                                                              (decide (e = 5) = true →
                                                                  (∃ (w_1 : Wt),
                                                                      [AD.ptr 49
                                                                            [D.v (Value.int IntKind.i64 w.s), D.v (Value.bool w.p),
                                                                              D.v (Value.int IntKind.i64 w.n)]] =
                                                                        [AD.ptr 49
                                                                            [D.v (Value.int IntKind.i64 w_1.s), D.v (Value.bool w_1.p),
                                                                              D.v (Value.int IntKind.i64 w_1.n)]]) ∧
                                                                    (((((alarmF { s := w.s, p := w.p, n := w.n : Wt }).fst.s =
                                                                                (stepF { s := w.s, p := w.p, n := w.n : Wt } e).fst.s ∧
                                                                              (alarmF { s := w.s, p := w.p, n := w.n : Wt }).fst.p =
                                                                                  (stepF { s := w.s, p := w.p, n := w.n : Wt } e).fst.p ∧
                                                                                (alarmF { s := w.s, p := w.p, n := w.n : Wt }).fst.n =
                                                                                    (stepF { s := w.s, p := w.p, n := w.n : Wt } e).fst.n ∧
                                                                                  True) ∧
                                                                            ((alarmF { s := w.s, p := w.p, n := w.n : Wt }).snd.ask =
                                                                                  (stepF { s := w.s, p := w.p, n := w.n : Wt } e).snd.fst.ask ∧
                                                                                (alarmF { s := w.s, p := w.p, n := w.n : Wt }).snd.fail =
                                                                                    (stepF { s := w.s, p := w.p, n := w.n : Wt } e).snd.fst.fail ∧
                                                                                  (alarmF { s := w.s, p := w.p, n := w.n : Wt }).snd.back =
                                                                                      (stepF { s := w.s, p := w.p, n := w.n : Wt } e).snd.fst.back ∧
                                                                                    (alarmF { s := w.s, p := w.p, n := w.n : Wt }).snd.close =
                                                                                        (stepF { s := w.s, p := w.p, n := w.n : Wt } e).snd.fst.close ∧
                                                                                      (alarmF { s := w.s, p := w.p, n := w.n : Wt }).snd.tri =
                                                                                          (stepF { s := w.s, p := w.p, n := w.n : Wt } e).snd.fst.tri ∧
                                                                                        (alarmF { s := w.s, p := w.p, n := w.n : Wt }).snd.wind =
                                                                                            (stepF { s := w.s, p := w.p, n := w.n : Wt } e).snd.fst.wind ∧
                                                                                          True) ∧
                                                                              0 = (stepF { s := w.s, p := w.p, n := w.n : Wt } e).snd.snd ∧ True) ∧
                                                                          True) ∧
                                                                        True) ∧
                                                                      True) ∧
                                                                (decide (e = 5) = false →
                                                                  ((((w.s = (stepF { s := w.s, p := w.p, n := w.n : Wt } e).fst.s ∧
                                                                            w.p = (stepF { s := w.s, p := w.p, n := w.n : Wt } e).fst.p ∧
                                                                              w.n = (stepF { s := w.s, p := w.p, n := w.n : Wt } e).fst.n ∧ True) ∧
                                                                          (false = (stepF { s := w.s, p := w.p, n := w.n : Wt } e).snd.fst.ask ∧
                                                                              false = (stepF { s := w.s, p := w.p, n := w.n : Wt } e).snd.fst.fail ∧
                                                                                false = (stepF { s := w.s, p := w.p, n := w.n : Wt } e).snd.fst.back ∧
                                                                                  false = (stepF { s := w.s, p := w.p, n := w.n : Wt } e).snd.fst.close ∧
                                                                                    false = (stepF { s := w.s, p := w.p, n := w.n : Wt } e).snd.fst.tri ∧
                                                                                      false = (stepF { s := w.s, p := w.p, n := w.n : Wt } e).snd.fst.wind ∧
                                                                                        True) ∧
                                                                            0 = (stepF { s := w.s, p := w.p, n := w.n : Wt } e).snd.snd ∧ True) ∧
                                                                        True) ∧
                                                                      True) ∧
                                                                    True))) ∧
                                                      (decide (e = 3) = false →
                                                        True ∧
                                                          (decide (e = 4) = true →
                                                              True ∧
                                                                (∃ (w_1 : Wt),
                                                                    ∃ (b : Bool),
                                                                      [AD.ptr 49
                                                                              [D.v (Value.int IntKind.i64 w.s), D.v (Value.bool w.p),
                                                                                D.v (Value.int IntKind.i64 w.n)],
                                                                            AD.v (Value.bool (decide (e = 3)))] =
                                                                          [AD.ptr 49
                                                                              [D.v (Value.int IntKind.i64 w_1.s), D.v (Value.bool w_1.p),
                                                                                D.v (Value.int IntKind.i64 w_1.n)],
                                                                            AD.v (Value.bool b)] ∧
                                                                        -1 ≤ w_1.n ∧ w_1.n ≤ 3) ∧
                                                                  (((((heardF { s := w.s, p := w.p, n := w.n : Wt } (decide (e = 3))).fst.s =
                                                                              (stepF { s := w.s, p := w.p, n := w.n : Wt } e).fst.s ∧
                                                                            (heardF { s := w.s, p := w.p, n := w.n : Wt } (decide (e = 3))).fst.p =
                                                                                (stepF { s := w.s, p := w.p, n := w.n : Wt } e).fst.p ∧
                                                                              (heardF { s := w.s, p := w.p, n := w.n : Wt } (decide (e = 3))).fst.n =
                                                                                  (stepF { s := w.s, p := w.p, n := w.n : Wt } e).fst.n ∧
                                                                                True) ∧
                                                                          ((heardF { s := w.s, p := w.p, n := w.n : Wt } (decide (e = 3))).snd.ask =
                                                                                (stepF { s := w.s, p := w.p, n := w.n : Wt } e).snd.fst.ask ∧
                                                                              (heardF { s := w.s, p := w.p, n := w.n : Wt } (decide (e = 3))).snd.fail =
                                                                                  (stepF { s := w.s, p := w.p, n := w.n : Wt } e).snd.fst.fail ∧
                                                                                (heardF { s := w.s, p := w.p, n := w.n : Wt } (decide (e = 3))).snd.back =
                                                                                    (stepF { s := w.s, p := w.p, n := w.n : Wt } e).snd.fst.back ∧
                                                                                  (heardF { s := w.s, p := w.p, n := w.n : Wt } (decide (e = 3))).snd.close =
                                                                                      (stepF { s := w.s, p := w.p, n := w.n : Wt } e).snd.fst.close ∧
                                                                                    (heardF { s := w.s, p := w.p, n := w.n : Wt } (decide (e = 3))).snd.tri =
                                                                                        (stepF { s := w.s, p := w.p, n := w.n : Wt } e).snd.fst.tri ∧
                                                                                      (heardF { s := w.s, p := w.p, n := w.n : Wt } (decide (e = 3))).snd.wind =
                                                                                          (stepF { s := w.s, p := w.p, n := w.n : Wt } e).snd.fst.wind ∧
                                                                                        True) ∧
                                                                            0 = (stepF { s := w.s, p := w.p, n := w.n : Wt } e).snd.snd ∧ True) ∧
                                                                        True) ∧
                                                                      True) ∧
                                                                    True) ∧
                                                            (decide (e = 4) = false →
                                                              True ∧
                                                                (decide (e = 5) = true →
                                                                    (∃ (w_1 : Wt),
                                                                        [AD.ptr 49
                                                                              [D.v (Value.int IntKind.i64 w.s), D.v (Value.bool w.p),
                                                                                D.v (Value.int IntKind.i64 w.n)]] =
                                                                          [AD.ptr 49
                                                                              [D.v (Value.int IntKind.i64 w_1.s), D.v (Value.bool w_1.p),
                                                                                D.v (Value.int IntKind.i64 w_1.n)]]) ∧
                                                                      (((((alarmF { s := w.s, p := w.p, n := w.n : Wt }).fst.s =
                                                                                  (stepF { s := w.s, p := w.p, n := w.n : Wt } e).fst.s ∧
                                                                                (alarmF { s := w.s, p := w.p, n := w.n : Wt }).fst.p =
                                                                                    (stepF { s := w.s, p := w.p, n := w.n : Wt } e).fst.p ∧
                                                                                  (alarmF { s := w.s, p := w.p, n := w.n : Wt }).fst.n =
                                                                                      (stepF { s := w.s, p := w.p, n := w.n : Wt } e).fst.n ∧
                                                                                    True) ∧
                                                                              ((alarmF { s := w.s, p := w.p, n := w.n : Wt }).snd.ask =
                                                                                    (stepF { s := w.s, p := w.p, n := w.n : Wt } e).snd.fst.ask ∧
                                                                                  (alarmF { s := w.s, p := w.p, n := w.n : Wt }).snd.fail =
                                                                                      (stepF { s := w.s, p := w.p, n := w.n : Wt } e).snd.fst.fail ∧
                                                                                    (alarmF { s := w.s, p := w.p, n := w.n : Wt }).snd.back =
                                                                                        (stepF { s := w.s, p := w.p, n := w.n : Wt } e).snd.fst.back ∧
                                                                                      (alarmF { s := w.s, p := w.p, n := w.n : Wt }).snd.close =
                                                                                          (stepF { s := w.s, p := w.p, n := w.n : Wt } e).snd.fst.close ∧
                                                                                        (alarmF { s := w.s, p := w.p, n := w.n : Wt }).snd.tri =
                                                                                            (stepF { s := w.s, p := w.p, n := w.n : Wt } e).snd.fst.tri ∧
                                                                                          (alarmF { s := w.s, p := w.p, n := w.n : Wt }).snd.wind =
                                                                                              (stepF { s := w.s, p := w.p, n := w.n : Wt } e).snd.fst.wind ∧
                                                                                            True) ∧
                                                                                0 = (stepF { s := w.s, p := w.p, n := w.n : Wt } e).snd.snd ∧ True) ∧
                                                                            True) ∧
                                                                          True) ∧
                                                                        True) ∧
                                                                  (decide (e = 5) = false →
                                                                    ((((w.s = (stepF { s := w.s, p := w.p, n := w.n : Wt } e).fst.s ∧
                                                                              w.p = (stepF { s := w.s, p := w.p, n := w.n : Wt } e).fst.p ∧
                                                                                w.n = (stepF { s := w.s, p := w.p, n := w.n : Wt } e).fst.n ∧ True) ∧
                                                                            (false = (stepF { s := w.s, p := w.p, n := w.n : Wt } e).snd.fst.ask ∧
                                                                                false = (stepF { s := w.s, p := w.p, n := w.n : Wt } e).snd.fst.fail ∧
                                                                                  false = (stepF { s := w.s, p := w.p, n := w.n : Wt } e).snd.fst.back ∧
                                                                                    false = (stepF { s := w.s, p := w.p, n := w.n : Wt } e).snd.fst.close ∧
                                                                                      false = (stepF { s := w.s, p := w.p, n := w.n : Wt } e).snd.fst.tri ∧
                                                                                        false = (stepF { s := w.s, p := w.p, n := w.n : Wt } e).snd.fst.wind ∧
                                                                                          True) ∧
                                                                              0 = (stepF { s := w.s, p := w.p, n := w.n : Wt } e).snd.snd ∧ True) ∧
                                                                          True) ∧
                                                                        True) ∧
                                                                      True))))))) ∧
                              (decide (e < 1) = !false →
                                ((0 = (stepF { s := w.s, p := w.p, n := w.n : Wt } e).fst.s ∧
                                      false = (stepF { s := w.s, p := w.p, n := w.n : Wt } e).fst.p ∧
                                        0 = (stepF { s := w.s, p := w.p, n := w.n : Wt } e).fst.n ∧ True) ∧
                                    (false = (stepF { s := w.s, p := w.p, n := w.n : Wt } e).snd.fst.ask ∧
                                        false = (stepF { s := w.s, p := w.p, n := w.n : Wt } e).snd.fst.fail ∧
                                          false = (stepF { s := w.s, p := w.p, n := w.n : Wt } e).snd.fst.back ∧
                                            false = (stepF { s := w.s, p := w.p, n := w.n : Wt } e).snd.fst.close ∧
                                              false = (stepF { s := w.s, p := w.p, n := w.n : Wt } e).snd.fst.tri ∧
                                                false = (stepF { s := w.s, p := w.p, n := w.n : Wt } e).snd.fst.wind ∧ True) ∧
                                      1 = (stepF { s := w.s, p := w.p, n := w.n : Wt } e).snd.snd ∧ True) ∧
                                  True)) ∧
                        (decide (3 < w.n) = !false →
                          ((0 = (stepF { s := w.s, p := w.p, n := w.n : Wt } e).fst.s ∧
                                false = (stepF { s := w.s, p := w.p, n := w.n : Wt } e).fst.p ∧
                                  0 = (stepF { s := w.s, p := w.p, n := w.n : Wt } e).fst.n ∧ True) ∧
                              (false = (stepF { s := w.s, p := w.p, n := w.n : Wt } e).snd.fst.ask ∧
                                  false = (stepF { s := w.s, p := w.p, n := w.n : Wt } e).snd.fst.fail ∧
                                    false = (stepF { s := w.s, p := w.p, n := w.n : Wt } e).snd.fst.back ∧
                                      false = (stepF { s := w.s, p := w.p, n := w.n : Wt } e).snd.fst.close ∧
                                        false = (stepF { s := w.s, p := w.p, n := w.n : Wt } e).snd.fst.tri ∧
                                          false = (stepF { s := w.s, p := w.p, n := w.n : Wt } e).snd.fst.wind ∧ True) ∧
                                1 = (stepF { s := w.s, p := w.p, n := w.n : Wt } e).snd.snd ∧ True) ∧
                            True)) ∧
                  (decide (w.n < -1) = !false →
                    ((0 = (stepF { s := w.s, p := w.p, n := w.n : Wt } e).fst.s ∧
                          false = (stepF { s := w.s, p := w.p, n := w.n : Wt } e).fst.p ∧ 0 = (stepF { s := w.s, p := w.p, n := w.n : Wt } e).fst.n ∧ True) ∧
                        (false = (stepF { s := w.s, p := w.p, n := w.n : Wt } e).snd.fst.ask ∧
                            false = (stepF { s := w.s, p := w.p, n := w.n : Wt } e).snd.fst.fail ∧
                              false = (stepF { s := w.s, p := w.p, n := w.n : Wt } e).snd.fst.back ∧
                                false = (stepF { s := w.s, p := w.p, n := w.n : Wt } e).snd.fst.close ∧
                                  false = (stepF { s := w.s, p := w.p, n := w.n : Wt } e).snd.fst.tri ∧
                                    false = (stepF { s := w.s, p := w.p, n := w.n : Wt } e).snd.fst.wind ∧ True) ∧
                          1 = (stepF { s := w.s, p := w.p, n := w.n : Wt } e).snd.snd ∧ True) ∧
                      True)) ∧
            (decide (4 < w.s) = !false →
              ((0 = (stepF { s := w.s, p := w.p, n := w.n : Wt } e).fst.s ∧
                    false = (stepF { s := w.s, p := w.p, n := w.n : Wt } e).fst.p ∧ 0 = (stepF { s := w.s, p := w.p, n := w.n : Wt } e).fst.n ∧ True) ∧
                  (false = (stepF { s := w.s, p := w.p, n := w.n : Wt } e).snd.fst.ask ∧
                      false = (stepF { s := w.s, p := w.p, n := w.n : Wt } e).snd.fst.fail ∧
                        false = (stepF { s := w.s, p := w.p, n := w.n : Wt } e).snd.fst.back ∧
                          false = (stepF { s := w.s, p := w.p, n := w.n : Wt } e).snd.fst.close ∧
                            false = (stepF { s := w.s, p := w.p, n := w.n : Wt } e).snd.fst.tri ∧
                              false = (stepF { s := w.s, p := w.p, n := w.n : Wt } e).snd.fst.wind ∧ True) ∧
                    1 = (stepF { s := w.s, p := w.p, n := w.n : Wt } e).snd.snd ∧ True) ∧
                True)) ∧
      (decide (w.s < 0) = !false →
        ((0 = (stepF { s := w.s, p := w.p, n := w.n : Wt } e).fst.s ∧
              false = (stepF { s := w.s, p := w.p, n := w.n : Wt } e).fst.p ∧ 0 = (stepF { s := w.s, p := w.p, n := w.n : Wt } e).fst.n ∧ True) ∧
            (false = (stepF { s := w.s, p := w.p, n := w.n : Wt } e).snd.fst.ask ∧
                false = (stepF { s := w.s, p := w.p, n := w.n : Wt } e).snd.fst.fail ∧
                  false = (stepF { s := w.s, p := w.p, n := w.n : Wt } e).snd.fst.back ∧
                    false = (stepF { s := w.s, p := w.p, n := w.n : Wt } e).snd.fst.close ∧
                      false = (stepF { s := w.s, p := w.p, n := w.n : Wt } e).snd.fst.tri ∧
                        false = (stepF { s := w.s, p := w.p, n := w.n : Wt } e).snd.fst.wind ∧ True) ∧
              1 = (stepF { s := w.s, p := w.p, n := w.n : Wt } e).snd.snd ∧ True) ∧
          True) := by
  rintro ⟨s, p, n⟩ e
  have hw : (s < 0 ∨ s > 4 ∨ n < -1 ∨ n > 3 ∨ e < 1 ∨ e > 5) → stepF ⟨s, p, n⟩ e = (⟨0, false, 0⟩, noDo, 1) := fun hr => by simp [stepF, hr]
  by_cases c1 : s < 0
  · simp [hw (by omega), noDo, c1]
  by_cases c2 : 4 < s
  · simp [hw (by omega), noDo, c1, c2]
  by_cases c3 : n < -1
  · simp [hw (by omega), noDo, c1, c2, c3]
  by_cases c4 : 3 < n
  · simp [hw (by omega), noDo, c1, c2, c3, c4]
  by_cases c5 : e < 1
  · simp [hw (by omega), noDo, c1, c2, c3, c4, c5]
  by_cases c6 : 5 < e
  · simp [hw (by omega), noDo, c1, c2, c3, c4, c5, c6]
  have hr : ¬ (s < 0 ∨ s > 4 ∨ n < -1 ∨ n > 3 ∨ e < 1 ∨ e > 5) := by omega
  have h3 : -1 ≤ n ∧ n ≤ 3 := by omega
  have ex : ∃ w : Wt, s = w.s ∧ p = w.p ∧ n = w.n := ⟨⟨s, p, n⟩, rfl, rfl, rfl⟩
  have ex2 : ∃ w : Wt, (s = w.s ∧ p = w.p ∧ n = w.n) ∧ -1 ≤ w.n ∧ w.n ≤ 3 := ⟨⟨s, p, n⟩, ⟨rfl, rfl, rfl⟩, h3⟩
  have hs : stepF ⟨s, p, n⟩ e = if e = 1 then ((openedF ⟨s, p, n⟩).1, (openedF ⟨s, p, n⟩).2, 0) else if e = 2 then ((brokenF ⟨s, p, n⟩).1, (brokenF ⟨s, p, n⟩).2, 0)
    else if e = 3 then ((heardF ⟨s, p, n⟩ true).1, (heardF ⟨s, p, n⟩ true).2, 0) else if e = 4 then ((heardF ⟨s, p, n⟩ false).1, (heardF ⟨s, p, n⟩ false).2, 0)
    else ((alarmF ⟨s, p, n⟩).1, (alarmF ⟨s, p, n⟩).2, 0) := by
    simp only [stepF]; rw [if_neg hr]
  have he : e = 1 ∨ e = 2 ∨ e = 3 ∨ e = 4 ∨ e = 5 := by omega
  simp only [hs, c1, c2, c3, c4, decide_false]
  clear hs hr hw
  rcases he with rfl | rfl | rfl | rfl | rfl <;> simp [ex, ex2]
theorem ok19 : FnIs Try.prog 19 stepC := by
  refine fnIs (C := ctrs c2) (by kernel_rfl) c2_ok Try.func19 (code := code19) (by kernel_rfl) (by kernel_rfl) ?_
  rintro a ⟨w, e, rfl⟩
  exact ⟨anns [], kcast (vc19 w e) (by kernel_rfl)⟩

theorem c3_ok : COk Try.prog (ctrs c3) := cok_cons ok19 cok_nil

noncomputable def code20 : Code := match Try.f20.body with | some c => c | none => .skip
theorem vc20 : ∀ (w : Wt) (e : Int),
  True ∧
    (decide (w.s < 0) = false →
        True ∧
          (decide (4 < w.s) = false →
              True ∧
                (decide (w.n < -1) = false →
                    True ∧
                      (decide (3 < w.n) = false →
                          True ∧
                            (decide (e < 1) = false →
                                True ∧
                                  (decide (5 < e) = true →
                                      ((0 = (watchedF { s := w.s, p := w.p, n := w.n : Wt } e).fst.s ∧
                                            false = (watchedF { s := w.s, p := w.p, n := w.n : Wt } e).fst.p ∧
                                              0 = (watchedF { s := w.s, p := w.p, n := w.n : Wt } e).fst.n ∧ True) ∧
                                          0 = (watchedF { s := w.s, p := w.p, n := w.n : Wt } e).snd.fst ∧
                                            1 = (watchedF { s := w.s, p := w.p, n := w.n : Wt } e).snd.snd ∧ True) ∧
                                        True) ∧
                                    (decide (5 < e) = false →
                                      True ∧
                                        True ∧
                                          True ∧
                                            (decide (IntKind.i64.wrap (IntKind.i64.wrap (w.s * 10) + e) = 1) = true →
                                                ((1 = (watchedF { s := w.s, p := w.p, n := w.n : Wt } e).fst.s ∧
                                                      false = (watchedF { s := w.s, p := w.p, n := w.n : Wt } e).fst.p ∧
                                                        w.n = (watchedF { s := w.s, p := w.p, n := w.n : Wt } e).fst.n ∧ True) ∧
                                                    32 = (watchedF { s := w.s, p := w.p, n := w.n : Wt } e).snd.fst ∧
                                                      0 = (watchedF { s := w.s, p := w.p, n := w.n : Wt } e).snd.snd ∧ True) ∧
                                                  True) ∧
                                              (decide (IntKind.i64.wrap (IntKind.i64.wrap (w.s * 10) + e) = 1) = false →
                                                True ∧
                                                  (decide (IntKind.i64.wrap (IntKind.i64.wrap (w.s * 10) + e) = 5) = true →
                                                      ((w.s = (watchedF { s := w.s, p := w.p, n := w.n : Wt } e).fst.s ∧
                                                            w.p = (watchedF { s := w.s, p := w.p, n := w.n : Wt } e).fst.p ∧
                                                              w.n = (watchedF { s := w.s, p := w.p, n := w.n : Wt } e).fst.n ∧ True) ∧
                                                          48 = (watchedF { s := w.s, p := w.p, n := w.n : Wt } e).snd.fst ∧
                                                            0 = (watchedF { s := w.s, p := w.p, n := w.n : Wt } e).snd.snd ∧ True) ∧
                                                        True) ∧
                                                    (decide (IntKind.i64.wrap (IntKind.i64.wrap (w.s * 10) + e) = 5) = false →
                                                      True ∧
                                                        (decide (IntKind.i64.wrap (IntKind.i64.wrap (w.s * 10) + e) = 13) = true →
                                                            ((1 = (watchedF { s := w.s, p := w.p, n := w.n : Wt } e).fst.s ∧
                                                                  false = (watchedF { s := w.s, p := w.p, n := w.n : Wt } e).fst.p ∧
                                                                    w.n = (watchedF { s := w.s, p := w.p, n := w.n : Wt } e).fst.n ∧ True) ∧
                                                                32 = (watchedF { s := w.s, p := w.p, n := w.n : Wt } e).snd.fst ∧
                                                                  0 = (watchedF { s := w.s, p := w.p, n := w.n : Wt } e).snd.snd ∧ True) ∧
                                                              True) ∧
                                                          (decide (IntKind.i64.wrap (IntKind.i64.wrap (w.s * 10) + e) = 13) = false →
                                                            True ∧
                                                              (decide (IntKind.i64.wrap (IntKind.i64.wrap (w.s * 10) + e) = 14) = true →
                                                                  ((w.s = (watchedF { s := w.s, p := w.p, n := w.n : Wt } e).fst.s ∧
                                                                        w.p = (watchedF { s := w.s, p := w.p, n := w.n : Wt } e).fst.p ∧
                                                                          w.n = (watchedF { s := w.s, p := w.p, n := w.n : Wt } e).fst.n ∧ True) ∧
                                                                      32 = (watchedF { s := w.s, p := w.p, n := w.n : Wt } e).snd.fst ∧
                                                                        0 = (watchedF { s := w.s, p := w.p, n := w.n : Wt } e).snd.snd ∧ True) ∧
                                                                    True) ∧
                                                                (decide (IntKind.i64.wrap (IntKind.i64.wrap (w.s * 10) + e) = 14) = false →
                                                                  True ∧
                                                                    (decide (IntKind.i64.wrap (IntKind.i64.wrap (w.s * 10) + e) = 15) = true →
                                                                        ((!w.p) = true →
                                                                            ((1 = (watchedF { s := w.s, p := w.p, n := w.n : Wt } e).fst.s ∧
                                                                                  true = (watchedF { s := w.s, p := w.p, n := w.n : Wt } e).fst.p ∧
                                                                                    w.n = (watchedF { s := w.s, p := w.p, n := w.n : Wt } e).fst.n ∧ True) ∧
                                                                                33 = (watchedF { s := w.s, p := w.p, n := w.n : Wt } e).snd.fst ∧
                                                                                  0 = (watchedF { s := w.s, p := w.p, n := w.n : Wt } e).snd.snd ∧ True) ∧
                                                                              True) ∧
                                                                          ((!w.p) = false →
                                                                            ((2 = (watchedF { s := w.s, p := w.p, n := w.n : Wt } e).fst.s ∧
                                                                                  true = (watchedF { s := w.s, p := w.p, n := w.n : Wt } e).fst.p ∧
                                                                                    w.n = (watchedF { s := w.s, p := w.p, n := w.n : Wt } e).fst.n ∧ True) ∧
                                                                                34 = (watchedF { s := w.s, p := w.p, n := w.n : Wt } e).snd.fst ∧
                                                                                  0 = (watchedF { s := w.s, p := w.p, n := w.n : Wt } e).snd.snd ∧ True) ∧
                                                                              True)) ∧
                                                                      (decide (IntKind.i64.wrap (IntKind.i64.wrap (w.s * 10) + e) = 15) = false →
                                                                        True ∧
                                                                          (decide (IntKind.i64.wrap (IntKind.i64.wrap (w.s * 10) + e) = 12) = true →
                                                                              ((3 = (watchedF { s := w.s, p := w.p, n := w.n : Wt } e).fst.s ∧
                                                                                    false = (watchedF { s := w.s, p := w.p, n := w.n : Wt } e).fst.p ∧
                                                                                      w.n = (watchedF { s := w.s, p := w.p, n := w.n : Wt } e).fst.n ∧ True) ∧
                                                                                  34 = (watchedF { s := w.s, p := w.p, n := w.n : Wt } e).snd.fst ∧
                                                                                    0 = (watchedF { s := w.s, p := w.p, n := w.n : Wt } e).snd.snd ∧ True) ∧
                                                                                True) ∧
                                                                            (decide (IntKind.i64.wrap (IntKind.i64.wrap (w.s * 10) + e) = 12) = false →
                                                                              True ∧
                                                                                (decide (IntKind.i64.wrap (IntKind.i64.wrap (w.s * 10) + e) = 23) = true →
                                                                                    ((1 = (watchedF { s := w.s, p := w.p, n := w.n : Wt } e).fst.s ∧
                                                                                          false = (watchedF { s := w.s, p := w.p, n := w.n : Wt } e).fst.p ∧
                                                                                            w.n = (watchedF { s := w.s, p := w.p, n := w.n : Wt } e).fst.n ∧
                                                                                              True) ∧
                                                                                        36 = (watchedF { s := w.s, p := w.p, n := w.n : Wt } e).snd.fst ∧
                                                                                          0 = (watchedF { s := w.s, p := w.p, n := w.n : Wt } e).snd.snd ∧
                                                                                            True) ∧
                                                                                      True) ∧
                                                                                  (decide (IntKind.i64.wrap (IntKind.i64.wrap (w.s * 10) + e) = 23) = false →
                                                                                    True ∧
                                                                                      (decide (IntKind.i64.wrap (IntKind.i64.wrap (w.s * 10) + e) = 24) = true →
                                                                                          ((1 = (watchedF { s := w.s, p := w.p, n := w.n : Wt } e).fst.s ∧
                                                                                                w.p = (watchedF { s := w.s, p := w.p, n := w.n : Wt } e).fst.p ∧
                                                                                                  w.n =
                                                                                                      (watchedF { s := w.s, p := w.p, n := w.n : Wt } e).fst.n ∧
                                                                                                    True) ∧
                                                                                              36 = (watchedF { s := w.s, p := w.p, n := w.n : Wt } e).snd.fst ∧
                                                                                                0 = (watchedF { s := w.s, p := w.p, n := w.n : Wt } e).snd.snd ∧
                                                                                                  True) ∧
                                                                                            True) ∧
                                                                                        (decide (IntKind.i64.wrap (IntKind.i64.wrap (w.s * 10) + e) = 24) =
                                                                                            false →
                                                                                          True ∧
                                                                                            (decide (IntKind.i64.wrap (IntKind.i64.wrap (w.s * 10) + e) = 25) =
                                                                                                  true →
                                                                                                ((3 = (watchedF { s := w.s, p := w.p, n := w.n : Wt } e).fst.s ∧
                                                                                                      false =
                                                                                                          (watchedF { s := w.s, p := w.p, n := w.n : Wt }
                                                                                                                e).fst.p ∧
                                                                                                        w.n =
                                                                                                            (watchedF { s := w.s, p := w.p, n := w.n : Wt }
                                                                                                                  e).fst.n ∧
                                                                                                          True) ∧
                                                                                                    40 =
                                                                                                        (watchedF { s := w.s, p := w.p, n := w.n : Wt }
                                                                                                              e).snd.fst ∧
                                                                                                      0 =
                                                                                                          (watchedF { s := w.s, p := w.p, n := w.n : Wt }
                                                                                                                e).snd.snd ∧
                                                                                                        True) ∧
                                                                                                  True) ∧
                                                                                              (decide
                                                                                                    (IntKind.i64.wrap (IntKind.i64.wrap (w.s * 10) + e) = 25) =
                                                                                                  false →
                                                                                                True ∧
                                                                                                  (decide
                                                                                                          (IntKind.i64.wrap (IntKind.i64.wrap (w.s * 10) + e) =
                                                                                                            22) =
                                                                                                        true →
                                                                                                      ((3 =
                                                                                                              (watchedF { s := w.s, p := w.p, n := w.n : Wt }
                                                                                                                    e).fst.s ∧
                                                                                                            false =
                                                                                                                (watchedF { s := w.s, p := w.p, n := w.n : Wt }
                                                                                                                      e).fst.p ∧
                                                                                                              w.n =
                                                                                                                  (watchedF
                                                                                                                        { s := w.s, p := w.p, n := w.n : Wt }
                                                                                                                        e).fst.n ∧
                                                                                                                True) ∧
                                                                                                          32 =
                                                                                                              (watchedF { s := w.s, p := w.p, n := w.n : Wt }
                                                                                                                    e).snd.fst ∧
                                                                                                            0 =
                                                                                                                (watchedF { s := w.s, p := w.p, n := w.n : Wt }
                                                                                                                      e).snd.snd ∧
                                                                                                              True) ∧
                                                                                                        True) ∧
                                                                                                    (decide
                                                                                                          (IntKind.i64.wrap (IntKind.i64.wrap (w.s * 10) + e) =
                                                                                                            22) =
                                                                                                        false →
                                                                                                      True ∧
                                                                                                        (decide
                                                                                                                (IntKind.i64.wrap
                                                                                                                    (IntKind.i64.wrap (w.s * 10) + e) =
                                                                                                                  31) =
                                                                                                              true →
                                                                                                            ((4 =
                                                                                                                    (watchedF
                                                                                                                          { s := w.s, p := w.p, n := w.n : Wt }
                                                                                                                          e).fst.s ∧
                                                                                                                  true =
                                                                                                                      (watchedF
                                                                                                                            { s := w.s, p := w.p, n := w.n :
                                                                                                                              Wt }
                                                                                                                            e).fst.p ∧
                                                                                                                    0 =
                                                                                                                        (watchedF
                                                                                                                              { s := w.s, p := w.p, n := w.n :
                                                                                                                                Wt }
                                                                                                                              e).fst.n ∧
                                                                                                                      True) ∧
                                                                                                                33 =
                                                                                                                    (watchedF
                                                                                                                          { s := w.s, p := w.p, n := w.n : Wt }
                                                                                                                          e).snd.fst ∧
                                                                                                                  0 =
                                                                                                                      (watchedF
                                                                                                                            { s := w.s, p := w.p, n := w.n :
                                                                                                                              Wt }
                                                                                                                            e).snd.snd ∧
                                                                                                                    True) ∧
                                                                                                              True) ∧
                                                                                                          (decide
                                                                                                                (IntKind.i64.wrap
                                                                                                                    (IntKind.i64.wrap (w.s * 10) + e) =
                                                                                                                  31) =
                                                                                                              false →
                                                                                                            True ∧
                                                                                                              (decide
                                                                                                                      (IntKind.i64.wrap
                                                                                                                          (IntKind.i64.wrap (w.s * 10) + e) =
                                                                                                                        35) =
                                                                                                                    true →
                                                                                                                  ((w.s =
                                                                                                                          (watchedF
                                                                                                                                { s := w.s, p := w.p, n := w.n :
                                                                                                                                  Wt }
                                                                                                                                e).fst.s ∧
                                                                                                                        w.p =
                                                                                                                            (watchedF
                                                                                                                                  { s := w.s, p := w.p,
                                                                                                                                    n := w.n : Wt }
                                                                                                                                  e).fst.p ∧
                                                                                                                          w.n =
                                                                                                                              (watchedF
                                                                                                                                    { s := w.s, p := w.p,
                                                                                                                                      n := w.n : Wt }
                                                                                                                                    e).fst.n ∧
                                                                                                                            True) ∧
                                                                                                                      48 =
                                                                                                                          (watchedF
                                                                                                                                { s := w.s, p := w.p, n := w.n :
                                                                                                                                  Wt }
                                                                                                                                e).snd.fst ∧
                                                                                                                        0 =
                                                                                                                            (watchedF
                                                                                                                                  { s := w.s, p := w.p,
                                                                                                                                    n := w.n : Wt }
                                                                                                                                  e).snd.snd ∧
                                                                                                                          True) ∧
                                                                                                                    True) ∧
                                                                                                                (decide
                                                                                                                      (IntKind.i64.wrap
                                                                                                                          (IntKind.i64.wrap (w.s * 10) + e) =
                                                                                                                        35) =
                                                                                                                    false →
                                                                                                                  True ∧
                                                                                                                    (decide
                                                                                                                            (IntKind.i64.wrap
                                                                                                                                (IntKind.i64.wrap (w.s * 10) +
                                                                                                                                  e) =
                                                                                                                              43) =
                                                                                                                          true →
                                                                                                                        True ∧
                                                                                                                          (decide (w.n < 2) = true →
                                                                                                                              True ∧
                                                                                                                                ((4 =
                                                                                                                                        (watchedF
                                                                                                                                              { s := w.s,
                                                                                                                                                p := w.p,
                                                                                                                                                n := w.n : Wt }
                                                                                                                                              e).fst.s ∧
                                                                                                                                      false =
                                                                                                                                          (watchedF
                                                                                                                                                { s := w.s,
                                                                                                                                                  p := w.p,
                                                                                                                                                  n := w.n :
                                                                                                                                                  Wt }
                                                                                                                                                e).fst.p ∧
                                                                                                                                        IntKind.i64.wrap
                                                                                                                                              (w.n + 1) =
                                                                                                                                            (watchedF
                                                                                                                                                  { s := w.s,
                                                                                                                                                    p := w.p,
                                                                                                                                                    n := w.n :
                                                                                                                                                    Wt }
                                                                                                                                                  e).fst.n ∧
                                                                                                                                          True) ∧
                                                                                                                                    0 =
                                                                                                                                        (watchedF
                                                                                                                                              { s := w.s,
                                                                                                                                                p := w.p,
                                                                                                                                                n := w.n : Wt }
                                                                                                                                              e).snd.fst ∧
                                                                                                                                      0 =
                                                                                                                                          (watchedF
                                                                                                                                                { s := w.s,
                                                                                                                                                  p := w.p,
                                                                                                                                                  n := w.n :
                                                                                                                                                  Wt }
                                                                                                                                                e).snd.snd ∧
                                                                                                                                        True) ∧
                                                                                                                                  True) ∧
                                                                                                                            (decide (w.n < 2) = false →
                                                                                                                              ((1 =
                                                                                                                                      (watchedF
                                                                                                                                            { s := w.s,
                                                                                                                                              p := w.p,
                                                                                                                                              n := w.n : Wt }
                                                                                                                                            e).fst.s ∧
                                                                                                                                    false =
                                                                                                                                        (watchedF
                                                                                                                                              { s := w.s,
                                                                                                                                                p := w.p,
                                                                                                                                                n := w.n : Wt }
                                                                                                                                              e).fst.p ∧
                                                                                                                                      0 =
                                                                                                                                          (watchedF
                                                                                                                                                { s := w.s,
                                                                                                                                                  p := w.p,
                                                                                                                                                  n := w.n :
                                                                                                                                                  Wt }
                                                                                                                                                e).fst.n ∧
                                                                                                                                        True) ∧
                                                                                                                                  36 =
                                                                                                                                      (watchedF
                                                                                                                                            { s := w.s,
                                                                                                                                              p := w.p,
                                                                                                                                              n := w.n : Wt }
                                                                                                                                            e).snd.fst ∧
                                                                                                                                    0 =
                                                                                                                                        (watchedF
                                                                                                                                              { s := w.s,
                                                                                                                                                p := w.p,
                                                                                                                                                n := w.n : Wt }
                                                                                                                                              e).snd.snd ∧
                                                                                                                                      True) ∧
                                                                                                                                True)) ∧
                                                                                                                      (decide
                                                                                                                            (IntKind.i64.wrap
                                                                                                                                (IntKind.i64.wrap (w.s * 10) +
                                                                                                                                  e) =
                                                                                                                              43) =
                                                                                                                          false →
                                                                                                                        True ∧
                                                                                                                          (decide
                                                                                                                                  (IntKind.i64.wrap
                                                                                                                                      (IntKind.i64.wrap
                                                                                                                                          (w.s * 10) +
                                                                                                                                        e) =
                                                                                                                                    45) =
                                                                                                                                true →
                                                                                                                              ((!w.p) = true →
                                                                                                                                  ((4 =
                                                                                                                                          (watchedF
                                                                                                                                                { s := w.s,
                                                                                                                                                  p := w.p,
                                                                                                                                                  n := w.n :
                                                                                                                                                  Wt }
                                                                                                                                                e).fst.s ∧
                                                                                                                                        true =
                                                                                                                                            (watchedF
                                                                                                                                                  { s := w.s,
                                                                                                                                                    p := w.p,
                                                                                                                                                    n := w.n :
                                                                                                                                                    Wt }
                                                                                                                                                  e).fst.p ∧
                                                                                                                                          w.n =
                                                                                                                                              (watchedF
                                                                                                                                                    { s := w.s,
                                                                                                                                                      p := w.p,
                                                                                                                                                      n := w.n :
                                                                                                                                                      Wt }
                                                                                                                                                    e).fst.n ∧
                                                                                                                                            True) ∧
                                                                                                                                      33 =
                                                                                                                                          (watchedF
                                                                                                                                                { s := w.s,
                                                                                                                                                  p := w.p,
                                                                                                                                                  n := w.n :
                                                                                                                                                  Wt }
                                                                                                                                                e).snd.fst ∧
                                                                                                                                        0 =
                                                                                                                                            (watchedF
                                                                                                                                                  { s := w.s,
                                                                                                                                                    p := w.p,
                                                                                                                                                    n := w.n :
                                                                                                                                                    Wt }
                                                                                                                                                  e).snd.snd ∧
                                                                                                                                          True) ∧
                                                                                                                                    True) ∧
                                                                                                                                ((!w.p) = false →
                                                                                                                                  True ∧
                                                                                                                                    (decide (0 ≤ w.n) = true →
                                                                                                                                        ((4 =
                                                                                                                                                (watchedF
                                                                                                                                                      {
                                                                                                                                                        s :=
                                                                                                                                                          w.s,
                                                                                                                                                        p :=
                                                                                                                                                          w.p,
                                                                                                                                                        n :=
                                                                                                                                                          w.n :
                                                                                                                                                        Wt }
                                                                                                                                                      e).fst.s ∧
                                                                                                                                              true =
                                                                                                                                                  (watchedF
                                                                                                                                                        {
                                                                                                                                                          s :=
                                                                                                                                                            w.s,
                                                                                                                                                          p :=
                                                                                                                                                            w.p,
                                                                                                                                                          n :=
                                                                                                                                                            w.n :
                                                                                                                                                          Wt }
                                                                                                                                                        e).fst.p ∧
                                                                                                                                                -1 =
                                                                                                                                                    (watchedF
                                                                                                                                                          {
                                                                                                                                                            s :=
                                                                                                                                                              w.s,
                                                                                                                                                            p :=
                                                                                                                                                              w.p,
                                                                                                                                                            n :=
                                                                                                                                                              w.n :
                                                                                                                                                            Wt }
                                                                                                                                                          e).fst.n ∧
                                                                                                                                                  True) ∧
                                                                                                                                            32 =
                                                                                                                                                (watchedF
                                                                                                                                                      {
                                                                                                                                                        s :=
                                                                                                                                                          w.s,
                                                                                                                                                        p :=
                                                                                                                                                          w.p,
                                                                                                                                                        n :=
                                                                                                                                                          w.n :
                                                                                                                                                        Wt }
                                                                                                                                                      e).snd.fst ∧
                                                                                                                                              0 =
                                                                                                                                                  (watchedF
                                                                                                                                                        {
                                                                                                                                                          s :=
                                                                                                                                                            w.s,
                                                                                                                                                          p :=
                                                                                                                                                            w.p,
                                                                                                                                                          n :=
                                                                                                                                                            w.n :
                                                                                                                                                          Wt }
                                                                                                                                                        e).snd.snd ∧
                                                                                                                                                True) ∧
                                                                                                                                          True) ∧
                                                                                                                                      (decide (0 ≤ w.n) =
                                                                                                                                          false →
                                                                                                                                        ((3 =
                                                                                                                                                (watchedF
                                                                                                                                                      {
                                                                                                                                                        s :=
                                                                                                                                                          w.s,
                                                                                                                                                        p :=
                                                                                                                                                          w.p,
                                                                                                                                                        n :=
                                                                                                                                                          w.n :
                                                                                                                                                        Wt }
                                                                                                                                                      e).fst.s ∧
                                                                                                                                              false =
                                                                                                                                                  (watchedF
                                                                                                                                                        {
                                                                                                                                                          s :=
                                                                                                                                                            w.s,
                                                                                                                                                          p :=
                                                                                                                                                            w.p,
                                                                                                                                                          n :=
                                                                                                                                                            w.n :
                                                                                                                                                          Wt }
                                                                                                                                                        e).fst.p ∧
                                                                                                                                                0 =
                                                                                                                                                    (watchedF
                                                                                                                                                          {
                                                                                                                                                            s :=
                                                                                                                                                              w.s,
                                                                                                                                                            p :=
                                                                                                                                                              w.p,
                                                                                                                                                            n :=
                                                                                                                                                              w.n :
                                                                                                                                                            Wt }
                                                                                                                                                          e).fst.n ∧
                                                                                                                                                  True) ∧
                                                                                                                                            40 =
                                                                                                                                                (watchedF
                                                                                                                                                      {
                                                                                                                                                        s :=
                                                                                                                                                          w.s,
                                                                                                                                                        p :=
                                                                                                                                                          w.p,
                                                                                                                                                        n :=
                                                                                                                                                          w.n :
                                                                                                                                                        Wt }
                                                                                                                                                      e).snd.fst ∧
                                                                                                                                              0 =
                                                                                                                                                  (watchedF
                                                                                                                                                        {
                                                                                                                                                          s :=
                                                                                                                                                            w.s,
                                                                                                                                                          p :=
                                                                                                                                                            w.p,
                                                                                                                                                          n :=
                                                                                                                                                            w.n :
                                                                                                                                                          Wt }
                                                                                                                                                        e).snd.snd ∧
                                                                                                                                                True) ∧
                                                                                                                                          True))) ∧
                                                                                                                            (decide
                                                                                                                                  (IntKind.i64.wrap
                                                                                                                                      (IntKind.i64.wrap
                                                                                                                                          (w.s * 10) +
                                                                                                                                        e) =
                                                                                                                                    45) =
                                                                                                                                false →
                                                                                                                              True ∧
                                                                                                                                (decide
                                                                                                                                        (IntKind.i64.wrap
                                                                                                                                            (IntKind.i64.wrap
                                                                                                                                                (w.s * 10) +
                                                                                                                                              e) =
                                                                                                                                          42) =
                                                                                                                                      true →
                                                                                                                                    ((3 =
                                                                                                                                            (watchedF
                                                                                                                                                  { s := w.s,
                                                                                                                                                    p := w.p,
                                                                                                                                                    n := w.n :
                                                                                                                                                    Wt }
                                                                                                                                                  e).fst.s ∧
                                                                                                                                          false =
                                                                                                                                              (watchedF
                                                                                                                                                    { s := w.s,
                                                                                                                                                      p := w.p,
                                                                                                                                                      n := w.n :
                                                                                                                                                      Wt }
                                                                                                                                                    e).fst.p ∧
                                                                                                                                            0 =
                                                                                                                                                (watchedF
                                                                                                                                                      {
                                                                                                                                                        s :=
                                                                                                                                                          w.s,
                                                                                                                                                        p :=
                                                                                                                                                          w.p,
                                                                                                                                                        n :=
                                                                                                                                                          w.n :
                                                                                                                                                        Wt }
                                                                                                                                                      e).fst.n ∧
                                                                                                                                              True) ∧
                                                                                                                                        32 =
                                                                                                                                            (watchedF
                                                                                                                                                  { s := w.s,
                                                                                                                                                    p := w.p,
                                                                                                                                                    n := w.n :
                                                                                                                                                    Wt }
                                                                                                                                                  e).snd.fst ∧
                                                                                                                                          0 =
                                                                                                                                              (watchedF
                                                                                                                                                    { s := w.s,
                                                                                                                                                      p := w.p,
                                                                                                                                                      n := w.n :
                                                                                                                                                      Wt }
                                                                                                                                                    e).snd.snd ∧
                                                                                                                                            True) ∧
                                                                                                                                      True) ∧
                                                                                                                                  (decide
                                                                                                                                        (IntKind.i64.wrap
                                                                                                                                            (IntKind.i64.wrap
                                                                                                                                                (w.s * 10) +
                                                                                                                                              e) =
                                                                                                                                          42) =
                                                                                                                                      false →
                                                                                                                                    ((w.s =
                                                                                                                                            (watchedF
                                                                                                                                                  { s := w.s,
                                                                                                                                                    p := w.p,
                                                                                                                                                    n := w.n :
                                                                                                                                                    Wt }
                                                                                                                                                  e).fst.s ∧
                                                                                                                                          w.p =
                                                                                                                                              (watchedF
                                                                                                                                                    { s := w.s,
                                                                                                                                                      p := w.p,
                                                                                                                                                      n := w.n :
                                                                                                                                                      Wt }
                                                                                                                                                    e).fst.p ∧
                                                                                                                                            w.n =
                                                                                                                                                (watchedF
                                                                                                                                                      {
                                                                                                                                                        s :=
                                                                                                                                                          w.s,
                                                                                                                                                        p :=
                                                                                                                                                          w.p,
                                                                                                                                                        n :=
                                                                                                                                                          w.n :
                                                                                                                                                        Wt }
                                                                                                                                                      e).fst.n ∧
                                                                                                                                              True) ∧
                                                                                                                                        0 =
                                                                                                                                            (watchedF
                                                                                                                                                  { s := w.s,
                                                                                                                                                    p := w.p,
                                                                                                                                                    n := w.n :
                                                                                                                                                    Wt }
                                                                                                                                                  e).snd.fst ∧
                                                                                                                                          0 =
                                                                                                                                              (watchedF
                                                                                                                                                    { s := w.s,
                                                                                                                                                      p := w.p,
                                                                                                                                                      n := w.n :
                                                                                                                                                      Wt }
                                                                                                                                                    e).snd.snd ∧
                                                                                                                                            True) ∧
                                                                                                                                      True))))))))))))))))) ∧
                              (decide (e < 1) = !false →
                                ((0 = (watchedF { s := w.s, p := w.p, n := w.n : Wt } e).fst.s ∧
                                      false = (watchedF { s := w.s, p := w.p, n := w.n : Wt } e).fst.p ∧
                                        0 = (watchedF { s := w.s, p := w.p, n := w.n : Wt } e).fst.n ∧ True) ∧
                                    0 = (watchedF { s := w.s, p := w.p, n := w.n : Wt } e).snd.fst ∧
                                      1 = (watchedF { s := w.s, p := w.p, n := w.n : Wt } e).snd.snd ∧ True) ∧
                                  True)) ∧
                        (decide (3 < w.n) = !false →
                          ((0 = (watchedF { s := w.s, p := w.p, n := w.n : Wt } e).fst.s ∧
                                false = (watchedF { s := w.s, p := w.p, n := w.n : Wt } e).fst.p ∧
                                  0 = (watchedF { s := w.s, p := w.p, n := w.n : Wt } e).fst.n ∧ True) ∧
                              0 = (watchedF { s := w.s, p := w.p, n := w.n : Wt } e).snd.fst ∧
                                1 = (watchedF { s := w.s, p := w.p, n := w.n : Wt } e).snd.snd ∧ True) ∧
                            True)) ∧
                  (decide (w.n < -1) = !false →
                    ((0 = (watchedF { s := w.s, p := w.p, n := w.n : Wt } e).fst.s ∧
                          false = (watchedF { s := w.s, p := w.p, n := w.n : Wt } e).fst.p ∧
                            0 = (watchedF { s := w.s, p := w.p, n := w.n : Wt } e).fst.n ∧ True) ∧
                        0 = (watchedF { s := w.s, p := w.p, n := w.n : Wt } e).snd.fst ∧
                          1 = (watchedF { s := w.s, p := w.p, n := w.n : Wt } e).snd.snd ∧ True) ∧
                      True)) ∧
            (decide (4 < w.s) = !false →
              ((0 = (watchedF { s := w.s, p := w.p, n := w.n : Wt } e).fst.s ∧
                    false = (watchedF { s := w.s, p := w.p, n := w.n : Wt } e).fst.p ∧ 0 = (watchedF { s := w.s, p := w.p, n := w.n : Wt } e).fst.n ∧ True) ∧
                  0 = (watchedF { s := w.s, p := w.p, n := w.n : Wt } e).snd.fst ∧ 1 = (watchedF { s := w.s, p := w.p, n := w.n : Wt } e).snd.snd ∧ True) ∧
                True)) ∧
      (decide (w.s < 0) = !false →
        ((0 = (watchedF { s := w.s, p := w.p, n := w.n : Wt } e).fst.s ∧
              false = (watchedF { s := w.s, p := w.p, n := w.n : Wt } e).fst.p ∧ 0 = (watchedF { s := w.s, p := w.p, n := w.n : Wt } e).fst.n ∧ True) ∧
            0 = (watchedF { s := w.s, p := w.p, n := w.n : Wt } e).snd.fst ∧ 1 = (watchedF { s := w.s, p := w.p, n := w.n : Wt } e).snd.snd ∧ True) ∧
          True) := by
  rintro ⟨s, p, n⟩ e
  have hw : (s < 0 ∨ s > 4 ∨ n < -1 ∨ n > 3 ∨ e < 1 ∨ e > 5) → watchedF ⟨s, p, n⟩ e = (⟨0, false, 0⟩, 0, 1) := fun hr => by simp [watchedF, hr]
  by_cases c1 : s < 0
  · simp [hw (by omega), c1]
  by_cases c2 : 4 < s
  · simp [hw (by omega), c1, c2]
  by_cases c3 : n < -1
  · simp [hw (by omega), c1, c2, c3]
  by_cases c4 : 3 < n
  · simp [hw (by omega), c1, c2, c3, c4]
  by_cases c5 : e < 1
  · simp [hw (by omega), c1, c2, c3, c4, c5]
  by_cases c6 : 5 < e
  · simp [hw (by omega), c1, c2, c3, c4, c5, c6]
  have hr : ¬ (s < 0 ∨ s > 4 ∨ n < -1 ∨ n > 3 ∨ e < 1 ∨ e > 5) := by omega
  have h3 : -1 ≤ n ∧ n ≤ 3 := by omega
  have hw1 : IntKind.i64.wrap (IntKind.i64.wrap (s * 10) + e) = s * 10 + e := by
    rw [IntWalk.i64_in (s * 10) (by omega), IntWalk.i64_in _ (by omega)]
  have hw' : IntKind.i64.wrap (n + 1) = n + 1 := IntWalk.i64_in _ (by omega)
  have ht : watchedF ⟨s, p, n⟩ e = tableF ⟨s, p, n⟩ (s * 10 + e) := by simp only [watchedF]; rw [if_neg hr]
  simp only [hw1, hw', ht, c1, c2, c3, c4, c5, c6, decide_false, Bool.not_false]
  generalize s * 10 + e = k
  simp only [decide_eq_true_eq, decide_eq_false_iff_not, Bool.not_eq_true', Bool.not_eq_false']
  clear hw hw1 hw' ht hr h3 c1 c2 c3 c4 c5 c6
  cases p <;> (repeat' first | apply And.intro | intro _) <;> first | rfl | (simp at *; done) | (simp [tableF, *]; done)
theorem ok20 : FnIs Try.prog 20 watchedC := by
  refine fnIs (C := ctrs c0) (by kernel_rfl) c0_ok Try.func20 (code := code20) (by kernel_rfl) (by kernel_rfl) ?_
  rintro a ⟨w, e, rfl⟩
  exact ⟨anns [], kcast (vc20 w e) (by kernel_rfl)⟩

noncomputable def code21 : Code := match Try.f21.body with | some c => c | none => .skip
theorem vc21 : (∃ (w : Wt),
    ∃ (e : Int),
      [AD.agg [D.v (Value.int IntKind.i64 0), D.v (Value.bool false), D.v (Value.int IntKind.i64 0)], AD.v (Value.int IntKind.i64 1)] =
        [AD.agg [D.v (Value.int IntKind.i64 w.s), D.v (Value.bool w.p), D.v (Value.int IntKind.i64 w.n)], AD.v (Value.int IntKind.i64 e)]) ∧
  True ∧
    (decide ((stepF { s := 0, p := false, n := 0 : Wt } 1).snd.snd = 0) = true →
        True ∧
          (decide ((stepF { s := 0, p := false, n := 0 : Wt } 1).fst.s = 1) = true →
              ((stepF { s := 0, p := false, n := 0 : Wt } 1).snd.fst.wind = true ∧ True) ∧ True) ∧
            (decide ((stepF { s := 0, p := false, n := 0 : Wt } 1).fst.s = 1) = !true → (false = true ∧ True) ∧ True)) ∧
      (decide ((stepF { s := 0, p := false, n := 0 : Wt } 1).snd.snd = 0) = !true → (false = true ∧ True) ∧ True) := by
  simp [stepF, openedF]
  exact ⟨⟨0, false, 0⟩, rfl, rfl, rfl⟩
theorem ok21 : FnIs Try.prog 21 answersC := by
  refine fnIs (C := ctrs c3) (by kernel_rfl) c3_ok Try.func21 (code := code21) (by kernel_rfl) (by kernel_rfl) ?_
  rintro a rfl
  exact ⟨anns [], kcast (vc21) (by kernel_rfl)⟩

noncomputable def code22 : Code := match Try.f22.body with | some c => c | none => .skip
theorem vc22 : ∀ (d : DoB),
  (d.ask = true →
      True ∧
        (d.fail = true →
            True ∧
              (d.back = true →
                  True ∧
                    (d.close = true →
                        True ∧
                          (d.tri = true →
                              True ∧
                                (d.wind = true →
                                    True ∧
                                      (IntKind.i64.wrap
                                              (IntKind.i64.wrap
                                                  (IntKind.i64.wrap (IntKind.i64.wrap (IntKind.i64.wrap (IntKind.i64.wrap (0 + 1) + 2) + 4) + 8) + 16) +
                                                32) =
                                            bitsF { ask := d.ask, fail := d.fail, back := d.back, close := d.close, tri := d.tri, wind := d.wind : DoB } ∧
                                          True) ∧
                                        True) ∧
                                  (d.wind = false →
                                    (IntKind.i64.wrap (IntKind.i64.wrap (IntKind.i64.wrap (IntKind.i64.wrap (IntKind.i64.wrap (0 + 1) + 2) + 4) + 8) + 16) =
                                          bitsF { ask := d.ask, fail := d.fail, back := d.back, close := d.close, tri := d.tri, wind := d.wind : DoB } ∧
                                        True) ∧
                                      True)) ∧
                            (d.tri = false →
                              (d.wind = true →
                                  True ∧
                                    (IntKind.i64.wrap (IntKind.i64.wrap (IntKind.i64.wrap (IntKind.i64.wrap (IntKind.i64.wrap (0 + 1) + 2) + 4) + 8) + 32) =
                                          bitsF { ask := d.ask, fail := d.fail, back := d.back, close := d.close, tri := d.tri, wind := d.wind : DoB } ∧
                                        True) ∧
                                      True) ∧
                                (d.wind = false →
                                  (IntKind.i64.wrap (IntKind.i64.wrap (IntKind.i64.wrap (IntKind.i64.wrap (0 + 1) + 2) + 4) + 8) =
                                        bitsF { ask := d.ask, fail := d.fail, back := d.back, close := d.close, tri := d.tri, wind := d.wind : DoB } ∧
                                      True) ∧
                                    True))) ∧
                      (d.close = false →
                        (d.tri = true →
                            True ∧
                              (d.wind = true →
                                  True ∧
                                    (IntKind.i64.wrap (IntKind.i64.wrap (IntKind.i64.wrap (IntKind.i64.wrap (IntKind.i64.wrap (0 + 1) + 2) + 4) + 16) + 32) =
                                          bitsF { ask := d.ask, fail := d.fail, back := d.back, close := d.close, tri := d.tri, wind := d.wind : DoB } ∧
                                        True) ∧
                                      True) ∧
                                (d.wind = false →
                                  (IntKind.i64.wrap (IntKind.i64.wrap (IntKind.i64.wrap (IntKind.i64.wrap (0 + 1) + 2) + 4) + 16) =
                                        bitsF { ask := d.ask, fail := d.fail, back := d.back, close := d.close, tri := d.tri, wind := d.wind : DoB } ∧
                                      True) ∧
                                    True)) ∧
                          (d.tri = false →
                            (d.wind = true →
                                True ∧
                                  (IntKind.i64.wrap (IntKind.i64.wrap (IntKind.i64.wrap (IntKind.i64.wrap (0 + 1) + 2) + 4) + 32) =
                                        bitsF { ask := d.ask, fail := d.fail, back := d.back, close := d.close, tri := d.tri, wind := d.wind : DoB } ∧
                                      True) ∧
                                    True) ∧
                              (d.wind = false →
                                (IntKind.i64.wrap (IntKind.i64.wrap (IntKind.i64.wrap (0 + 1) + 2) + 4) =
                                      bitsF { ask := d.ask, fail := d.fail, back := d.back, close := d.close, tri := d.tri, wind := d.wind : DoB } ∧
                                    True) ∧
                                  True)))) ∧
                (d.back = false →
                  (d.close = true →
                      True ∧
                        (d.tri = true →
                            True ∧
                              (d.wind = true →
                                  True ∧
                                    (IntKind.i64.wrap (IntKind.i64.wrap (IntKind.i64.wrap (IntKind.i64.wrap (IntKind.i64.wrap (0 + 1) + 2) + 8) + 16) + 32) =
                                          bitsF { ask := d.ask, fail := d.fail, back := d.back, close := d.close, tri := d.tri, wind := d.wind : DoB } ∧
                                        True) ∧
                                      True) ∧
                                (d.wind = false →
                                  (IntKind.i64.wrap (IntKind.i64.wrap (IntKind.i64.wrap (IntKind.i64.wrap (0 + 1) + 2) + 8) + 16) =
                                        bitsF { ask := d.ask, fail := d.fail, back := d.back, close := d.close, tri := d.tri, wind := d.wind : DoB } ∧
                                      True) ∧
                                    True)) ∧
                          (d.tri = false →
                            (d.wind = true →
                                True ∧
                                  (IntKind.i64.wrap (IntKind.i64.wrap (IntKind.i64.wrap (IntKind.i64.wrap (0 + 1) + 2) + 8) + 32) =
                                        bitsF { ask := d.ask, fail := d.fail, back := d.back, close := d.close, tri := d.tri, wind := d.wind : DoB } ∧
                                      True) ∧
                                    True) ∧
                              (d.wind = false →
                                (IntKind.i64.wrap (IntKind.i64.wrap (IntKind.i64.wrap (0 + 1) + 2) + 8) =
                                      bitsF { ask := d.ask, fail := d.fail, back := d.back, close := d.close, tri := d.tri, wind := d.wind : DoB } ∧
                                    True) ∧
                                  True))) ∧
                    (d.close = false →
                      (d.tri = true →
                          True ∧
                            (d.wind = true →
                                True ∧
                                  (IntKind.i64.wrap (IntKind.i64.wrap (IntKind.i64.wrap (IntKind.i64.wrap (0 + 1) + 2) + 16) + 32) =
                                        bitsF { ask := d.ask, fail := d.fail, back := d.back, close := d.close, tri := d.tri, wind := d.wind : DoB } ∧
                                      True) ∧
                                    True) ∧
                              (d.wind = false →
                                (IntKind.i64.wrap (IntKind.i64.wrap (IntKind.i64.wrap (0 + 1) + 2) + 16) =
                                      bitsF { ask := d.ask, fail := d.fail, back := d.back, close := d.close, tri := d.tri, wind := d.wind : DoB } ∧
                                    True) ∧
                                  True)) ∧
                        (d.tri = false →
                          (d.wind = true →
                              True ∧
                                (IntKind.i64.wrap (IntKind.i64.wrap (IntKind.i64.wrap (0 + 1) + 2) + 32) =
                                      bitsF { ask := d.ask, fail := d.fail, back := d.back, close := d.close, tri := d.tri, wind := d.wind : DoB } ∧
                                    True) ∧
                                  True) ∧
                            (d.wind = false →
                              (IntKind.i64.wrap (IntKind.i64.wrap (0 + 1) + 2) =
                                    bitsF { ask := d.ask, fail := d.fail, back := d.back, close := d.close, tri := d.tri, wind := d.wind : DoB } ∧
                                  True) ∧
                                True))))) ∧
          (d.fail = false →
            (d.back = true →
                True ∧
                  (d.close = true →
                      True ∧
                        (d.tri = true →
                            True ∧
                              (d.wind = true →
                                  True ∧
                                    (IntKind.i64.wrap (IntKind.i64.wrap (IntKind.i64.wrap (IntKind.i64.wrap (IntKind.i64.wrap (0 + 1) + 4) + 8) + 16) + 32) =
                                          bitsF { ask := d.ask, fail := d.fail, back := d.back, close := d.close, tri := d.tri, wind := d.wind : DoB } ∧
                                        True) ∧
                                      True) ∧
                                (d.wind = false →
                                  (IntKind.i64.wrap (IntKind.i64.wrap (IntKind.i64.wrap (IntKind.i64.wrap (0 + 1) + 4) + 8) + 16) =
                                        bitsF { ask := d.ask, fail := d.fail, back := d.back, close := d.close, tri := d.tri, wind := d.wind : DoB } ∧
                                      True) ∧
                                    True)) ∧
                          (d.tri = false →
                            (d.wind = true →
                                True ∧
                                  (IntKind.i64.wrap (IntKind.i64.wrap (IntKind.i64.wrap (IntKind.i64.wrap (0 + 1) + 4) + 8) + 32) =
                                        bitsF { ask := d.ask, fail := d.fail, back := d.back, close := d.close, tri := d.tri, wind := d.wind : DoB } ∧
                                      True) ∧
                                    True) ∧
                              (d.wind = false →
                                (IntKind.i64.wrap (IntKind.i64.wrap (IntKind.i64.wrap (0 + 1) + 4) + 8) =
                                      bitsF { ask := d.ask, fail := d.fail, back := d.back, close := d.close, tri := d.tri, wind := d.wind : DoB } ∧
                                    True) ∧
                                  True))) ∧
                    (d.close = false →
                      (d.tri = true →
                          True ∧
                            (d.wind = true →
                                True ∧
                                  (IntKind.i64.wrap (IntKind.i64.wrap (IntKind.i64.wrap (IntKind.i64.wrap (0 + 1) + 4) + 16) + 32) =
                                        bitsF { ask := d.ask, fail := d.fail, back := d.back, close := d.close, tri := d.tri, wind := d.wind : DoB } ∧
                                      True) ∧
                                    True) ∧
                              (d.wind = false →
                                (IntKind.i64.wrap (IntKind.i64.wrap (IntKind.i64.wrap (0 + 1) + 4) + 16) =
                                      bitsF { ask := d.ask, fail := d.fail, back := d.back, close := d.close, tri := d.tri, wind := d.wind : DoB } ∧
                                    True) ∧
                                  True)) ∧
                        (d.tri = false →
                          (d.wind = true →
                              True ∧
                                (IntKind.i64.wrap (IntKind.i64.wrap (IntKind.i64.wrap (0 + 1) + 4) + 32) =
                                      bitsF { ask := d.ask, fail := d.fail, back := d.back, close := d.close, tri := d.tri, wind := d.wind : DoB } ∧
                                    True) ∧
                                  True) ∧
                            (d.wind = false →
                              (IntKind.i64.wrap (IntKind.i64.wrap (0 + 1) + 4) =
                                    bitsF { ask := d.ask, fail := d.fail, back := d.back, close := d.close, tri := d.tri, wind := d.wind : DoB } ∧
                                  True) ∧
                                True)))) ∧
              (d.back = false →
                (d.close = true →
                    True ∧
                      (d.tri = true →
                          True ∧
                            (d.wind = true →
                                True ∧
                                  (IntKind.i64.wrap (IntKind.i64.wrap (IntKind.i64.wrap (IntKind.i64.wrap (0 + 1) + 8) + 16) + 32) =
                                        bitsF { ask := d.ask, fail := d.fail, back := d.back, close := d.close, tri := d.tri, wind := d.wind : DoB } ∧
                                      True) ∧
                                    True) ∧
                              (d.wind = false →
                                (IntKind.i64.wrap (IntKind.i64.wrap (IntKind.i64.wrap (0 + 1) + 8) + 16) =
                                      bitsF { ask := d.ask, fail := d.fail, back := d.back, close := d.close, tri := d.tri, wind := d.wind : DoB } ∧
                                    True) ∧
                                  True)) ∧
                        (d.tri = false →
                          (d.wind = true →
                              True ∧
                                (IntKind.i64.wrap (IntKind.i64.wrap (IntKind.i64.wrap (0 + 1) + 8) + 32) =
                                      bitsF { ask := d.ask, fail := d.fail, back := d.back, close := d.close, tri := d.tri, wind := d.wind : DoB } ∧
                                    True) ∧
                                  True) ∧
                            (d.wind = false →
                              (IntKind.i64.wrap (IntKind.i64.wrap (0 + 1) + 8) =
                                    bitsF { ask := d.ask, fail := d.fail, back := d.back, close := d.close, tri := d.tri, wind := d.wind : DoB } ∧
                                  True) ∧
                                True))) ∧
                  (d.close = false →
                    (d.tri = true →
                        True ∧
                          (d.wind = true →
                              True ∧
                                (IntKind.i64.wrap (IntKind.i64.wrap (IntKind.i64.wrap (0 + 1) + 16) + 32) =
                                      bitsF { ask := d.ask, fail := d.fail, back := d.back, close := d.close, tri := d.tri, wind := d.wind : DoB } ∧
                                    True) ∧
                                  True) ∧
                            (d.wind = false →
                              (IntKind.i64.wrap (IntKind.i64.wrap (0 + 1) + 16) =
                                    bitsF { ask := d.ask, fail := d.fail, back := d.back, close := d.close, tri := d.tri, wind := d.wind : DoB } ∧
                                  True) ∧
                                True)) ∧
                      (d.tri = false →
                        (d.wind = true →
                            True ∧
                              (IntKind.i64.wrap (IntKind.i64.wrap (0 + 1) + 32) =
                                    bitsF { ask := d.ask, fail := d.fail, back := d.back, close := d.close, tri := d.tri, wind := d.wind : DoB } ∧
                                  True) ∧
                                True) ∧
                          (d.wind = false →
                            (IntKind.i64.wrap (0 + 1) =
                                  bitsF { ask := d.ask, fail := d.fail, back := d.back, close := d.close, tri := d.tri, wind := d.wind : DoB } ∧
                                True) ∧
                              True)))))) ∧
    (d.ask = false →
      (d.fail = true →
          True ∧
            (d.back = true →
                True ∧
                  (d.close = true →
                      True ∧
                        (d.tri = true →
                            True ∧
                              (d.wind = true →
                                  True ∧
                                    (IntKind.i64.wrap (IntKind.i64.wrap (IntKind.i64.wrap (IntKind.i64.wrap (IntKind.i64.wrap (0 + 2) + 4) + 8) + 16) + 32) =
                                          bitsF { ask := d.ask, fail := d.fail, back := d.back, close := d.close, tri := d.tri, wind := d.wind : DoB } ∧
                                        True) ∧
                                      True) ∧
                                (d.wind = false →
                                  (IntKind.i64.wrap (IntKind.i64.wrap (IntKind.i64.wrap (IntKind.i64.wrap (0 + 2) + 4) + 8) + 16) =
                                        bitsF { ask := d.ask, fail := d.fail, back := d.back, close := d.close, tri := d.tri, wind := d.wind : DoB } ∧
                                      True) ∧
                                    True)) ∧
                          (d.tri = false →
                            (d.wind = true →
                                True ∧
                                  (IntKind.i64.wrap (IntKind.i64.wrap (IntKind.i64.wrap (IntKind.i64.wrap (0 + 2) + 4) + 8) + 32) =
                                        bitsF { ask := d.ask, fail := d.fail, back := d.back, close := d.close, tri := d.tri, wind := d.wind : DoB } ∧
                                      True) ∧
                                    True) ∧
                              (d.wind = false →
                                (IntKind.i64.wrap (IntKind.i64.wrap (IntKind.i64.wrap (0 + 2) + 4) + 8) =
                                      bitsF { ask := d.ask, fail := d.fail, back := d.back, close := d.close, tri := d.tri, wind := d.wind : DoB } ∧
                                    True) ∧
                                  True))) ∧
                    (d.close = false →
                      (d.tri = true →
                          True ∧
                            (d.wind = true →
                                True ∧
                                  (IntKind.i64.wrap (IntKind.i64.wrap (IntKind.i64.wrap (IntKind.i64.wrap (0 + 2) + 4) + 16) + 32) =
                                        bitsF { ask := d.ask, fail := d.fail, back := d.back, close := d.close, tri := d.tri, wind := d.wind : DoB } ∧
                                      True) ∧
                                    True) ∧
                              (d.wind = false →
                                (IntKind.i64.wrap (IntKind.i64.wrap (IntKind.i64.wrap (0 + 2) + 4) + 16) =
                                      bitsF { ask := d.ask, fail := d.fail, back := d.back, close := d.close, tri := d.tri, wind := d.wind : DoB } ∧
                                    True) ∧
                                  True)) ∧
                        (d.tri = false →
                          (d.wind = true →
                              True ∧
                                (IntKind.i64.wrap (IntKind.i64.wrap (IntKind.i64.wrap (0 + 2) + 4) + 32) =
                                      bitsF { ask := d.ask, fail := d.fail, back := d.back, close := d.close, tri := d.tri, wind := d.wind : DoB } ∧
                                    True) ∧
                                  True) ∧
                            (d.wind = false →
                              (IntKind.i64.wrap (IntKind.i64.wrap (0 + 2) + 4) =
                                    bitsF { ask := d.ask, fail := d.fail, back := d.back, close := d.close, tri := d.tri, wind := d.wind : DoB } ∧
                                  True) ∧
                                True)))) ∧
              (d.back = false →
                (d.close = true →
                    True ∧
                      (d.tri = true →
                          True ∧
                            (d.wind = true →
                                True ∧
                                  (IntKind.i64.wrap (IntKind.i64.wrap (IntKind.i64.wrap (IntKind.i64.wrap (0 + 2) + 8) + 16) + 32) =
                                        bitsF { ask := d.ask, fail := d.fail, back := d.back, close := d.close, tri := d.tri, wind := d.wind : DoB } ∧
                                      True) ∧
                                    True) ∧
                              (d.wind = false →
                                (IntKind.i64.wrap (IntKind.i64.wrap (IntKind.i64.wrap (0 + 2) + 8) + 16) =
                                      bitsF { ask := d.ask, fail := d.fail, back := d.back, close := d.close, tri := d.tri, wind := d.wind : DoB } ∧
                                    True) ∧
                                  True)) ∧
                        (d.tri = false →
                          (d.wind = true →
                              True ∧
                                (IntKind.i64.wrap (IntKind.i64.wrap (IntKind.i64.wrap (0 + 2) + 8) + 32) =
                                      bitsF { ask := d.ask, fail := d.fail, back := d.back, close := d.close, tri := d.tri, wind := d.wind : DoB } ∧
                                    True) ∧
                                  True) ∧
                            (d.wind = false →
                              (IntKind.i64.wrap (IntKind.i64.wrap (0 + 2) + 8) =
                                    bitsF { ask := d.ask, fail := d.fail, back := d.back, close := d.close, tri := d.tri, wind := d.wind : DoB } ∧
                                  True) ∧
                                True))) ∧
                  (d.close = false →
                    (d.tri = true →
                        True ∧
                          (d.wind = true →
                              True ∧
                                (IntKind.i64.wrap (IntKind.i64.wrap (IntKind.i64.wrap (0 + 2) + 16) + 32) =
                                      bitsF { ask := d.ask, fail := d.fail, back := d.back, close := d.close, tri := d.tri, wind := d.wind : DoB } ∧
                                    True) ∧
                                  True) ∧
                            (d.wind = false →
                              (IntKind.i64.wrap (IntKind.i64.wrap (0 + 2) + 16) =
                                    bitsF { ask := d.ask, fail := d.fail, back := d.back, close := d.close, tri := d.tri, wind := d.wind : DoB } ∧
                                  True) ∧
                                True)) ∧
                      (d.tri = false →
                        (d.wind = true →
                            True ∧
                              (IntKind.i64.wrap (IntKind.i64.wrap (0 + 2) + 32) =
                                    bitsF { ask := d.ask, fail := d.fail, back := d.back, close := d.close, tri := d.tri, wind := d.wind : DoB } ∧
                                  True) ∧
                                True) ∧
                          (d.wind = false →
                            (IntKind.i64.wrap (0 + 2) =
                                  bitsF { ask := d.ask, fail := d.fail, back := d.back, close := d.close, tri := d.tri, wind := d.wind : DoB } ∧
                                True) ∧
                              True))))) ∧
        (d.fail = false →
          (d.back = true →
              True ∧
                (d.close = true →
                    True ∧
                      (d.tri = true →
                          True ∧
                            (d.wind = true →
                                True ∧
                                  (IntKind.i64.wrap (IntKind.i64.wrap (IntKind.i64.wrap (IntKind.i64.wrap (0 + 4) + 8) + 16) + 32) =
                                        bitsF { ask := d.ask, fail := d.fail, back := d.back, close := d.close, tri := d.tri, wind := d.wind : DoB } ∧
                                      True) ∧
                                    True) ∧
                              (d.wind = false →
                                (IntKind.i64.wrap (IntKind.i64.wrap (IntKind.i64.wrap (0 + 4) + 8) + 16) =
                                      bitsF { ask := d.ask, fail := d.fail, back := d.back, close := d.close, tri := d.tri, wind := d.wind : DoB } ∧
                                    True) ∧
                                  True)) ∧
                        (d.tri = false →
                          (d.wind = true →
                              True ∧
                                (IntKind.i64.wrap (IntKind.i64.wrap (IntKind.i64.wrap (0 + 4) + 8) + 32) =
                                      bitsF { ask := d.ask, fail := d.fail, back := d.back, close := d.close, tri := d.tri, wind := d.wind : DoB } ∧
                                    True) ∧
                                  True) ∧
                            (d.wind = false →
                              (IntKind.i64.wrap (IntKind.i64.wrap (0 + 4) + 8) =
                                    bitsF { ask := d.ask, fail := d.fail, back := d.back, close := d.close, tri := d.tri, wind := d.wind : DoB } ∧
                                  True) ∧
                                True))) ∧
                  (d.close = false →
                    (d.tri = true →
                        True ∧
                          (d.wind = true →
                              True ∧
                                (IntKind.i64.wrap (IntKind.i64.wrap (IntKind.i64.wrap (0 + 4) + 16) + 32) =
                                      bitsF { ask := d.ask, fail := d.fail, back := d.back, close := d.close, tri := d.tri, wind := d.wind : DoB } ∧
                                    True) ∧
                                  True) ∧
                            (d.wind = false →
                              (IntKind.i64.wrap (IntKind.i64.wrap (0 + 4) + 16) =
                                    bitsF { ask := d.ask, fail := d.fail, back := d.back, close := d.close, tri := d.tri, wind := d.wind : DoB } ∧
                                  True) ∧
                                True)) ∧
                      (d.tri = false →
                        (d.wind = true →
                            True ∧
                              (IntKind.i64.wrap (IntKind.i64.wrap (0 + 4) + 32) =
                                    bitsF { ask := d.ask, fail := d.fail, back := d.back, close := d.close, tri := d.tri, wind := d.wind : DoB } ∧
                                  True) ∧
                                True) ∧
                          (d.wind = false →
                            (IntKind.i64.wrap (0 + 4) =
                                  bitsF { ask := d.ask, fail := d.fail, back := d.back, close := d.close, tri := d.tri, wind := d.wind : DoB } ∧
                                True) ∧
                              True)))) ∧
            (d.back = false →
              (d.close = true →
                  True ∧
                    (d.tri = true →
                        True ∧
                          (d.wind = true →
                              True ∧
                                (IntKind.i64.wrap (IntKind.i64.wrap (IntKind.i64.wrap (0 + 8) + 16) + 32) =
                                      bitsF { ask := d.ask, fail := d.fail, back := d.back, close := d.close, tri := d.tri, wind := d.wind : DoB } ∧
                                    True) ∧
                                  True) ∧
                            (d.wind = false →
                              (IntKind.i64.wrap (IntKind.i64.wrap (0 + 8) + 16) =
                                    bitsF { ask := d.ask, fail := d.fail, back := d.back, close := d.close, tri := d.tri, wind := d.wind : DoB } ∧
                                  True) ∧
                                True)) ∧
                      (d.tri = false →
                        (d.wind = true →
                            True ∧
                              (IntKind.i64.wrap (IntKind.i64.wrap (0 + 8) + 32) =
                                    bitsF { ask := d.ask, fail := d.fail, back := d.back, close := d.close, tri := d.tri, wind := d.wind : DoB } ∧
                                  True) ∧
                                True) ∧
                          (d.wind = false →
                            (IntKind.i64.wrap (0 + 8) =
                                  bitsF { ask := d.ask, fail := d.fail, back := d.back, close := d.close, tri := d.tri, wind := d.wind : DoB } ∧
                                True) ∧
                              True))) ∧
                (d.close = false →
                  (d.tri = true →
                      True ∧
                        (d.wind = true →
                            True ∧
                              (IntKind.i64.wrap (IntKind.i64.wrap (0 + 16) + 32) =
                                    bitsF { ask := d.ask, fail := d.fail, back := d.back, close := d.close, tri := d.tri, wind := d.wind : DoB } ∧
                                  True) ∧
                                True) ∧
                          (d.wind = false →
                            (IntKind.i64.wrap (0 + 16) =
                                  bitsF { ask := d.ask, fail := d.fail, back := d.back, close := d.close, tri := d.tri, wind := d.wind : DoB } ∧
                                True) ∧
                              True)) ∧
                    (d.tri = false →
                      (d.wind = true →
                          True ∧
                            (IntKind.i64.wrap (0 + 32) =
                                  bitsF { ask := d.ask, fail := d.fail, back := d.back, close := d.close, tri := d.tri, wind := d.wind : DoB } ∧
                                True) ∧
                              True) ∧
                        (d.wind = false →
                          (0 = bitsF { ask := d.ask, fail := d.fail, back := d.back, close := d.close, tri := d.tri, wind := d.wind : DoB } ∧ True) ∧ True)))))) := by
  rintro ⟨a, b, c, d, e, f⟩
  cases a <;> cases b <;> cases c <;> cases d <;> cases e <;> cases f <;> simp [bitsF] <;> decide
theorem ok22 : FnIs Try.prog 22 bitsC := by
  refine fnIs (C := ctrs c0) (by kernel_rfl) c0_ok Try.func22 (code := code22) (by kernel_rfl) (by kernel_rfl) ?_
  rintro a ⟨d, rfl⟩
  exact ⟨anns [], kcast (vc22 d) (by kernel_rfl)⟩

theorem c4_ok : COk Try.prog (ctrs c4) := cok_cons ok19 (cok_cons ok20 (cok_cons ok21 (cok_cons ok22 cok_nil)))

noncomputable def code7 : Code := match Try.f7.body with | some c => c | none => .skip
theorem vc7 : ∀ (s n e : Int) (p : Bool),
  (∃ (w : Wt),
      ∃ (e_1 : Int),
        [AD.agg [D.v (Value.int IntKind.i64 s), D.v (Value.bool p), D.v (Value.int IntKind.i64 n)], AD.v (Value.int IntKind.i64 e)] =
          [AD.agg [D.v (Value.int IntKind.i64 w.s), D.v (Value.bool w.p), D.v (Value.int IntKind.i64 w.n)], AD.v (Value.int IntKind.i64 e_1)]) ∧
    (∃ (w : Wt),
        ∃ (e_1 : Int),
          [AD.agg [D.v (Value.int IntKind.i64 s), D.v (Value.bool p), D.v (Value.int IntKind.i64 n)], AD.v (Value.int IntKind.i64 e)] =
            [AD.agg [D.v (Value.int IntKind.i64 w.s), D.v (Value.bool w.p), D.v (Value.int IntKind.i64 w.n)], AD.v (Value.int IntKind.i64 e_1)]) ∧
      ([] : List AD) = [] ∧
        (true = true →
            True ∧
              (decide ((stepF { s := s, p := p, n := n : Wt } e).fst.s = (watchedF { s := s, p := p, n := n : Wt } e).fst.s) = true →
                  True ∧
                    (((stepF { s := s, p := p, n := n : Wt } e).fst.p == (watchedF { s := s, p := p, n := n : Wt } e).fst.p) = true →
                        True ∧
                          (decide ((stepF { s := s, p := p, n := n : Wt } e).fst.n = (watchedF { s := s, p := p, n := n : Wt } e).fst.n) = true →
                              (∃ (d : DoB),
                                  [AD.agg
                                        [D.v (Value.bool (stepF { s := s, p := p, n := n : Wt } e).snd.fst.ask),
                                          D.v (Value.bool (stepF { s := s, p := p, n := n : Wt } e).snd.fst.fail),
                                          D.v (Value.bool (stepF { s := s, p := p, n := n : Wt } e).snd.fst.back),
                                          D.v (Value.bool (stepF { s := s, p := p, n := n : Wt } e).snd.fst.close),
                                          D.v (Value.bool (stepF { s := s, p := p, n := n : Wt } e).snd.fst.tri),
                                          D.v (Value.bool (stepF { s := s, p := p, n := n : Wt } e).snd.fst.wind)]] =
                                    [AD.agg
                                        [D.v (Value.bool d.ask), D.v (Value.bool d.fail), D.v (Value.bool d.back), D.v (Value.bool d.close),
                                          D.v (Value.bool d.tri), D.v (Value.bool d.wind)]]) ∧
                                True ∧
                                  (decide
                                          (bitsF
                                              { ask := (stepF { s := s, p := p, n := n : Wt } e).snd.fst.ask,
                                                fail := (stepF { s := s, p := p, n := n : Wt } e).snd.fst.fail,
                                                back := (stepF { s := s, p := p, n := n : Wt } e).snd.fst.back,
                                                close := (stepF { s := s, p := p, n := n : Wt } e).snd.fst.close,
                                                tri := (stepF { s := s, p := p, n := n : Wt } e).snd.fst.tri,
                                                wind := (stepF { s := s, p := p, n := n : Wt } e).snd.fst.wind : DoB } =
                                            (watchedF { s := s, p := p, n := n : Wt } e).snd.fst) =
                                        true →
                                      True ∧
                                        (decide ((stepF { s := s, p := p, n := n : Wt } e).snd.snd = (watchedF { s := s, p := p, n := n : Wt } e).snd.snd) =
                                              true ∧
                                            True) ∧
                                          True) ∧
                                    (decide
                                          (bitsF
                                              { ask := (stepF { s := s, p := p, n := n : Wt } e).snd.fst.ask,
                                                fail := (stepF { s := s, p := p, n := n : Wt } e).snd.fst.fail,
                                                back := (stepF { s := s, p := p, n := n : Wt } e).snd.fst.back,
                                                close := (stepF { s := s, p := p, n := n : Wt } e).snd.fst.close,
                                                tri := (stepF { s := s, p := p, n := n : Wt } e).snd.fst.tri,
                                                wind := (stepF { s := s, p := p, n := n : Wt } e).snd.fst.wind : DoB } =
                                            (watchedF { s := s, p := p, n := n : Wt } e).snd.fst) =
                                        !true →
                                      (false = true ∧ True) ∧ True)) ∧
                            (decide ((stepF { s := s, p := p, n := n : Wt } e).fst.n = (watchedF { s := s, p := p, n := n : Wt } e).fst.n) = !true →
                              (false = true ∧ True) ∧ True)) ∧
                      (((stepF { s := s, p := p, n := n : Wt } e).fst.p == (watchedF { s := s, p := p, n := n : Wt } e).fst.p) = !true →
                        (false = true ∧ True) ∧ True)) ∧
                (decide ((stepF { s := s, p := p, n := n : Wt } e).fst.s = (watchedF { s := s, p := p, n := n : Wt } e).fst.s) = !true →
                  (false = true ∧ True) ∧ True)) ∧
          (true = !true → (false = true ∧ True) ∧ True) := by
  intro s n e p
  obtain ⟨h1, h2, h3, h4, h5⟩ := steps_eq ⟨s, p, n⟩ e
  have ex : ∃ w : Wt, s = w.s ∧ p = w.p ∧ n = w.n := ⟨⟨s, p, n⟩, rfl, rfl, rfl⟩
  simp [ex, h1, h2, h3, h4, h5]
  exact ⟨_, rfl, rfl, rfl, rfl, rfl, rfl⟩
theorem ok7 : FnIs Try.prog 7 stepsC := by
  refine fnIs (C := ctrs c4) (by kernel_rfl) c4_ok Try.func7 (code := code7) (by kernel_rfl) (by kernel_rfl) ?_
  rintro a ⟨s, n, e, p, rfl⟩
  exact ⟨anns [], kcast (vc7 s n e p) (by kernel_rfl)⟩

end Go.XR
