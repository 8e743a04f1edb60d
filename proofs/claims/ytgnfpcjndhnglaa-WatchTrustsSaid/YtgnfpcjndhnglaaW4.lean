/- The statement WatchTrusts. -/
import Derived.Test.YtgnfpcjndhnglaaRows
import Derived.Test.YtgnfpcjndhnglaaM
import Derived.Test.YtgnfpcjndhnglaaW1
import Derived.Test.YtgnfpcjndhnglaaW2
namespace Go.XR
open Go.Proofs
open Go.X Go.XM Go.RowKit
theorem c5_ok : COk Try.prog (ctrs c5) := cok_cons ok19 (cok_cons ok21 cok_nil)
noncomputable def code9 : Code := match Try.f9.body with | some c => c | none => .skip
theorem vc9 : let y := stepF { s := (3 : Int), p := false, n := (0 : Int) : Wt } (1 : Int);
∀ (o : Int),
  (0 : Int) ≤ o ∧ o ≤ (255 : Int) →
    (∃ (w : Wt),
        ∃ (e : Int),
          [AD.agg [D.v (Value.int IntKind.i64 (3 : Int)), D.v (Value.bool false), D.v (Value.int IntKind.i64 (0 : Int))],
              AD.v (Value.int IntKind.i64 (1 : Int))] =
            [AD.agg [D.v (Value.int IntKind.i64 w.s), D.v (Value.bool w.p), D.v (Value.int IntKind.i64 w.n)], AD.v (Value.int IntKind.i64 e)]) ∧
      ([] : List AD) = [] ∧
        ((!true) = false →
            True ∧
              ((!decide (y.snd.snd = (0 : Int))) = false →
                  True ∧
                    ((!decide (y.fst.s = (4 : Int))) = false →
                        ((!y.snd.fst.ask) = true → (false = true ∧ True) ∧ True) ∧
                          ((!y.snd.fst.ask) = false →
                            ∃ (g0 : Int),
                              ((0 : Int) ≤ g0 ∧ g0 ≤ (3 : Int)) ∧
                                ((0 : Int) = g0 ∧
                                    (y.fst.s = if g0 = (3 : Int) then (1 : Int) else (4 : Int)) ∧
                                      y.fst.p = !decide (g0 = (3 : Int)) ∧
                                        (y.fst.n = if g0 = (3 : Int) then (0 : Int) else g0) ∧
                                          y.snd.fst.back = decide (g0 = (3 : Int)) ∧ (true && true) = true) ∧
                                  ∀ (g : Int),
                                    let y_1 :=
                                      stepF
                                        { s := if g = (3 : Int) then (1 : Int) else (4 : Int), p := !decide (g = (3 : Int)),
                                          n := if g = (3 : Int) then (0 : Int) else g : Wt }
                                        (3 : Int);
                                    let y_2 := stepF { s := y_1.fst.s, p := y_1.fst.p, n := y_1.fst.n : Wt } (5 : Int);
                                    let y_3 :=
                                      stepF
                                        { s := if g = (3 : Int) then (1 : Int) else (4 : Int), p := !decide (g = (3 : Int)),
                                          n := if g = (3 : Int) then (0 : Int) else g : Wt }
                                        (4 : Int);
                                    (0 : Int) ≤ g ∧ g ≤ (3 : Int) →
                                      True ∧
                                        (decide (g < (3 : Int)) = true →
                                            ∃ (g0_1 : Int),
                                              ((0 : Int) ≤ g0_1 ∧ g0_1 ≤ (3 : Int)) ∧
                                                ((0 : Int) = g0_1 ∧
                                                    ((if g = (3 : Int) then (1 : Int) else (4 : Int)) = if g = (3 : Int) then (1 : Int) else (4 : Int)) ∧
                                                      (!decide (g = (3 : Int))) = !decide (g = (3 : Int)) ∧
                                                        ((if g = (3 : Int) then (0 : Int) else g) = if g = (3 : Int) then (0 : Int) else g) ∧
                                                          (true && true) = true) ∧
                                                  ∀ (g_1 : Int),
                                                    (0 : Int) ≤ g_1 ∧ g_1 ≤ (3 : Int) →
                                                      (4 : Int) ≠ (0 : Int) ∧
                                                        True ∧
                                                          (decide (g_1 < IntKind.i64.wrap (o.tmod (4 : Int))) = true →
                                                              (∃ (w : Wt),
                                                                  ∃ (e : Int),
                                                                    [AD.agg
                                                                          [D.v (Value.int IntKind.i64 (if g = (3 : Int) then (1 : Int) else (4 : Int))),
                                                                            D.v (Value.bool !decide (g = (3 : Int))),
                                                                            D.v (Value.int IntKind.i64 (if g = (3 : Int) then (0 : Int) else g))],
                                                                        AD.v (Value.int IntKind.i64 (4 : Int))] =
                                                                      [AD.agg
                                                                          [D.v (Value.int IntKind.i64 w.s), D.v (Value.bool w.p),
                                                                            D.v (Value.int IntKind.i64 w.n)],
                                                                        AD.v (Value.int IntKind.i64 e)]) ∧
                                                                True ∧
                                                                  ∃ (g' : Int),
                                                                    ((0 : Int) ≤ g' ∧ g' ≤ (3 : Int)) ∧
                                                                      ((4 : Int) - g').toNat < ((4 : Int) - g_1).toNat ∧
                                                                        (IntKind.i64.wrap (g_1 + (1 : Int)) = g' ∧
                                                                            (y_3.fst.s = if g = (3 : Int) then (1 : Int) else (4 : Int)) ∧
                                                                              y_3.fst.p = !decide (g = (3 : Int)) ∧
                                                                                (y_3.fst.n = if g = (3 : Int) then (0 : Int) else g) ∧ (true && true) = true) ∧
                                                                          (some (SV.c (Value.bool (decide (g < (3 : Int))))) =
                                                                                some (SV.c (Value.bool (decide (g < (3 : Int))))) ∧
                                                                              some (SV.c (Value.int IntKind.i64 g)) = some (SV.c (Value.int IntKind.i64 g)) ∧
                                                                                some (SV.c (Value.int IntKind.i64 g)) = some (SV.c (Value.int IntKind.i64 g)) ∧
                                                                                  some (SV.c (Value.bool !y.snd.fst.ask)) =
                                                                                      some (SV.c (Value.bool !y.snd.fst.ask)) ∧
                                                                                    some (SV.c (Value.bool !y.snd.fst.ask)) =
                                                                                        some (SV.c (Value.bool !y.snd.fst.ask)) ∧
                                                                                      some (SV.c (Value.bool y.snd.fst.ask)) =
                                                                                          some (SV.c (Value.bool y.snd.fst.ask)) ∧
                                                                                        some (SV.p (1 : Nat) (0 : Nat)) = some (SV.p (1 : Nat) (0 : Nat)) ∧
                                                                                          some (SV.b false) = some (SV.b false) ∧
                                                                                            some (SV.c (Value.bool !decide (y.fst.s = (4 : Int)))) =
                                                                                                some (SV.c (Value.bool !decide (y.fst.s = (4 : Int)))) ∧
                                                                                              some (SV.c (Value.bool !decide (y.fst.s = (4 : Int)))) =
                                                                                                  some (SV.c (Value.bool !decide (y.fst.s = (4 : Int)))) ∧
                                                                                                some (SV.c (Value.int IntKind.i64 y.fst.s)) =
                                                                                                    some (SV.c (Value.int IntKind.i64 y.fst.s)) ∧
                                                                                                  some (SV.p (0 : Nat) (0 : Nat)) =
                                                                                                      some (SV.p (0 : Nat) (0 : Nat)) ∧
                                                                                                    some (SV.b false) = some (SV.b false) ∧
                                                                                                      some (SV.c (Value.bool !decide (y.snd.snd = (0 : Int)))) =
                                                                                                          some
                                                                                                            (SV.c
                                                                                                              (Value.bool !decide (y.snd.snd = (0 : Int)))) ∧
                                                                                                        some
                                                                                                              (SV.c
                                                                                                                (Value.bool !decide (y.snd.snd = (0 : Int)))) =
                                                                                                            some
                                                                                                              (SV.c
                                                                                                                (Value.bool !decide (y.snd.snd = (0 : Int)))) ∧
                                                                                                          some (SV.c (Value.int IntKind.i64 y.snd.snd)) =
                                                                                                              some (SV.c (Value.int IntKind.i64 y.snd.snd)) ∧
                                                                                                            some (SV.b false) = some (SV.b false) ∧
                                                                                                              some (SV.c (Value.bool !true)) =
                                                                                                                  some (SV.c (Value.bool !true)) ∧
                                                                                                                some (SV.c (Value.bool true)) =
                                                                                                                    some (SV.c (Value.bool true)) ∧
                                                                                                                  some
                                                                                                                        (SV.c
                                                                                                                          (Value.int IntKind.i64 y.snd.snd)) =
                                                                                                                      some
                                                                                                                        (SV.c
                                                                                                                          (Value.int IntKind.i64 y.snd.snd)) ∧
                                                                                                                    some (SV.p (1 : Nat) (0 : Nat)) =
                                                                                                                        some (SV.p (1 : Nat) (0 : Nat)) ∧
                                                                                                                      some (SV.p (0 : Nat) (0 : Nat)) =
                                                                                                                          some (SV.p (0 : Nat) (0 : Nat)) ∧
                                                                                                                        some
                                                                                                                              (SV.c
                                                                                                                                (Value.int IntKind.i64
                                                                                                                                  y.snd.snd)) =
                                                                                                                            some
                                                                                                                              (SV.c
                                                                                                                                (Value.int IntKind.i64
                                                                                                                                  y.snd.snd)) ∧
                                                                                                                          some
                                                                                                                                (SV.agg
                                                                                                                                  [SV.c
                                                                                                                                      (Value.bool
                                                                                                                                        y.snd.fst.ask),
                                                                                                                                    SV.c
                                                                                                                                      (Value.bool
                                                                                                                                        y.snd.fst.fail),
                                                                                                                                    SV.c
                                                                                                                                      (Value.bool
                                                                                                                                        y.snd.fst.back),
                                                                                                                                    SV.c
                                                                                                                                      (Value.bool
                                                                                                                                        y.snd.fst.close),
                                                                                                                                    SV.c
                                                                                                                                      (Value.bool
                                                                                                                                        y.snd.fst.tri),
                                                                                                                                    SV.c
                                                                                                                                      (Value.bool
                                                                                                                                        y.snd.fst.wind)]) =
                                                                                                                              some
                                                                                                                                (SV.agg
                                                                                                                                  [SV.c
                                                                                                                                      (Value.bool
                                                                                                                                        y.snd.fst.ask),
                                                                                                                                    SV.c
                                                                                                                                      (Value.bool
                                                                                                                                        y.snd.fst.fail),
                                                                                                                                    SV.c
                                                                                                                                      (Value.bool
                                                                                                                                        y.snd.fst.back),
                                                                                                                                    SV.c
                                                                                                                                      (Value.bool
                                                                                                                                        y.snd.fst.close),
                                                                                                                                    SV.c
                                                                                                                                      (Value.bool
                                                                                                                                        y.snd.fst.tri),
                                                                                                                                    SV.c
                                                                                                                                      (Value.bool
                                                                                                                                        y.snd.fst.wind)]) ∧
                                                                                                                            some
                                                                                                                                  (SV.agg
                                                                                                                                    [SV.c
                                                                                                                                        (Value.int IntKind.i64
                                                                                                                                          y.fst.s),
                                                                                                                                      SV.c (Value.bool y.fst.p),
                                                                                                                                      SV.c
                                                                                                                                        (Value.int IntKind.i64
                                                                                                                                          y.fst.n)]) =
                                                                                                                                some
                                                                                                                                  (SV.agg
                                                                                                                                    [SV.c
                                                                                                                                        (Value.int IntKind.i64
                                                                                                                                          y.fst.s),
                                                                                                                                      SV.c (Value.bool y.fst.p),
                                                                                                                                      SV.c
                                                                                                                                        (Value.int IntKind.i64
                                                                                                                                          y.fst.n)]) ∧
                                                                                                                              some
                                                                                                                                    (SV.tup
                                                                                                                                      [SV.agg
                                                                                                                                          [SV.c
                                                                                                                                              (Value.int
                                                                                                                                                IntKind.i64
                                                                                                                                                y.fst.s),
                                                                                                                                            SV.c
                                                                                                                                              (Value.bool
                                                                                                                                                y.fst.p),
                                                                                                                                            SV.c
                                                                                                                                              (Value.int
                                                                                                                                                IntKind.i64
                                                                                                                                                y.fst.n)],
                                                                                                                                        SV.agg
                                                                                                                                          [SV.c
                                                                                                                                              (Value.bool
                                                                                                                                                y.snd.fst.ask),
                                                                                                                                            SV.c
                                                                                                                                              (Value.bool
                                                                                                                                                y.snd.fst.fail),
                                                                                                                                            SV.c
                                                                                                                                              (Value.bool
                                                                                                                                                y.snd.fst.back),
                                                                                                                                            SV.c
                                                                                                                                              (Value.bool
                                                                                                                                                y.snd.fst.close),
                                                                                                                                            SV.c
                                                                                                                                              (Value.bool
                                                                                                                                                y.snd.fst.tri),
                                                                                                                                            SV.c
                                                                                                                                              (Value.bool
                                                                                                                                                y.snd.fst.wind)],
                                                                                                                                        SV.c
                                                                                                                                          (Value.int IntKind.i64
                                                                                                                                            y.snd.snd)]) =
                                                                                                                                  some
                                                                                                                                    (SV.tup
                                                                                                                                      [SV.agg
                                                                                                                                          [SV.c
                                                                                                                                              (Value.int
                                                                                                                                                IntKind.i64
                                                                                                                                                y.fst.s),
                                                                                                                                            SV.c
                                                                                                                                              (Value.bool
                                                                                                                                                y.fst.p),
                                                                                                                                            SV.c
                                                                                                                                              (Value.int
                                                                                                                                                IntKind.i64
                                                                                                                                                y.fst.n)],
                                                                                                                                        SV.agg
                                                                                                                                          [SV.c
                                                                                                                                              (Value.bool
                                                                                                                                                y.snd.fst.ask),
                                                                                                                                            SV.c
                                                                                                                                              (Value.bool
                                                                                                                                                y.snd.fst.fail),
                                                                                                                                            SV.c
                                                                                                                                              (Value.bool
                                                                                                                                                y.snd.fst.back),
                                                                                                                                            SV.c
                                                                                                                                              (Value.bool
                                                                                                                                                y.snd.fst.close),
                                                                                                                                            SV.c
                                                                                                                                              (Value.bool
                                                                                                                                                y.snd.fst.tri),
                                                                                                                                            SV.c
                                                                                                                                              (Value.bool
                                                                                                                                                y.snd.fst.wind)],
                                                                                                                                        SV.c
                                                                                                                                          (Value.int IntKind.i64
                                                                                                                                            y.snd.snd)]) ∧
                                                                                                                                some
                                                                                                                                      (SV.tup
                                                                                                                                        [SV.agg
                                                                                                                                            [SV.c
                                                                                                                                                (Value.int
                                                                                                                                                  IntKind.i64
                                                                                                                                                  y.fst.s),
                                                                                                                                              SV.c
                                                                                                                                                (Value.bool
                                                                                                                                                  y.fst.p),
                                                                                                                                              SV.c
                                                                                                                                                (Value.int
                                                                                                                                                  IntKind.i64
                                                                                                                                                  y.fst.n)],
                                                                                                                                          SV.agg
                                                                                                                                            [SV.c
                                                                                                                                                (Value.bool
                                                                                                                                                  y.snd.fst.ask),
                                                                                                                                              SV.c
                                                                                                                                                (Value.bool
                                                                                                                                                  y.snd.fst.fail),
                                                                                                                                              SV.c
                                                                                                                                                (Value.bool
                                                                                                                                                  y.snd.fst.back),
                                                                                                                                              SV.c
                                                                                                                                                (Value.bool
                                                                                                                                                  y.snd.fst.close),
                                                                                                                                              SV.c
                                                                                                                                                (Value.bool
                                                                                                                                                  y.snd.fst.tri),
                                                                                                                                              SV.c
                                                                                                                                                (Value.bool
                                                                                                                                                  y.snd.fst.wind)],
                                                                                                                                          SV.c
                                                                                                                                            (Value.int
                                                                                                                                              IntKind.i64
                                                                                                                                              y.snd.snd)]) =
                                                                                                                                    some
                                                                                                                                      (SV.tup
                                                                                                                                        [SV.agg
                                                                                                                                            [SV.c
                                                                                                                                                (Value.int
                                                                                                                                                  IntKind.i64
                                                                                                                                                  y.fst.s),
                                                                                                                                              SV.c
                                                                                                                                                (Value.bool
                                                                                                                                                  y.fst.p),
                                                                                                                                              SV.c
                                                                                                                                                (Value.int
                                                                                                                                                  IntKind.i64
                                                                                                                                                  y.fst.n)],
                                                                                                                                          SV.agg
                                                                                                                                            [SV.c
                                                                                                                                                (Value.bool
                                                                                                                                                  y.snd.fst.ask),
                                                                                                                                              SV.c
                                                                                                                                                (Value.bool
                                                                                                                                                  y.snd.fst.fail),
                                                                                                                                              SV.c
                                                                                                                                                (Value.bool
                                                                                                                                                  y.snd.fst.back),
                                                                                                                                              SV.c
                                                                                                                                                (Value.bool
                                                                                                                                                  y.snd.fst.close),
                                                                                                                                              SV.c
                                                                                                                                                (Value.bool
                                                                                                                                                  y.snd.fst.tri),
                                                                                                                                              SV.c
                                                                                                                                                (Value.bool
                                                                                                                                                  y.snd.fst.wind)],
                                                                                                                                          SV.c
                                                                                                                                            (Value.int
                                                                                                                                              IntKind.i64
                                                                                                                                              y.snd.snd)]) ∧
                                                                                                                                  some
                                                                                                                                        (SV.agg
                                                                                                                                          [SV.c
                                                                                                                                              (Value.int
                                                                                                                                                IntKind.i64
                                                                                                                                                (3 : Int)),
                                                                                                                                            SV.b false,
                                                                                                                                            SV.c
                                                                                                                                              (Value.int
                                                                                                                                                IntKind.i64
                                                                                                                                                (0 : Int))]) =
                                                                                                                                      some
                                                                                                                                        (SV.agg
                                                                                                                                          [SV.c
                                                                                                                                              (Value.int
                                                                                                                                                IntKind.i64
                                                                                                                                                (3 : Int)),
                                                                                                                                            SV.b false,
                                                                                                                                            SV.c
                                                                                                                                              (Value.int
                                                                                                                                                IntKind.i64
                                                                                                                                                (0 : Int))]) ∧
                                                                                                                                    some
                                                                                                                                          (SV.c
                                                                                                                                            (Value.int
                                                                                                                                              IntKind.u8 o)) =
                                                                                                                                        some
                                                                                                                                          (SV.c
                                                                                                                                            (Value.int
                                                                                                                                              IntKind.u8 o)) ∧
                                                                                                                                      True) ∧
                                                                            some
                                                                                  (R.blk (51 : Nat)
                                                                                    [SV.unk, SV.unk, SV.c (Value.bool (decide (g = (3 : Int)))), SV.unk, SV.unk,
                                                                                      SV.unk]) =
                                                                                some
                                                                                  (R.blk (51 : Nat)
                                                                                    [SV.unk, SV.unk, SV.c (Value.bool (decide (g = (3 : Int)))), SV.unk, SV.unk,
                                                                                      SV.unk]) ∧
                                                                              True) ∧
                                                            (decide (g_1 < IntKind.i64.wrap (o.tmod (4 : Int))) = false →
                                                              True ∧
                                                                ((!decide ((if g = (3 : Int) then (1 : Int) else (4 : Int)) = (4 : Int))) = true →
                                                                    (false = true ∧ True) ∧ True) ∧
                                                                  ((!decide ((if g = (3 : Int) then (1 : Int) else (4 : Int)) = (4 : Int))) = false →
                                                                    (∃ (w : Wt),
                                                                        ∃ (e : Int),
                                                                          [AD.agg
                                                                                [D.v (Value.int IntKind.i64 (if g = (3 : Int) then (1 : Int) else (4 : Int))),
                                                                                  D.v (Value.bool !decide (g = (3 : Int))),
                                                                                  D.v (Value.int IntKind.i64 (if g = (3 : Int) then (0 : Int) else g))],
                                                                              AD.v (Value.int IntKind.i64 (3 : Int))] =
                                                                            [AD.agg
                                                                                [D.v (Value.int IntKind.i64 w.s), D.v (Value.bool w.p),
                                                                                  D.v (Value.int IntKind.i64 w.n)],
                                                                              AD.v (Value.int IntKind.i64 e)]) ∧
                                                                      True ∧
                                                                        (decide (g < (2 : Int)) = true →
                                                                            (y_1.snd.fst.back = false →
                                                                                (y_1.fst.p = true → (false = true ∧ True) ∧ True) ∧
                                                                                  (y_1.fst.p = false →
                                                                                    (∃ (w : Wt),
                                                                                        ∃ (e : Int),
                                                                                          [AD.agg
                                                                                                [D.v (Value.int IntKind.i64 y_1.fst.s),
                                                                                                  D.v (Value.bool y_1.fst.p),
                                                                                                  D.v (Value.int IntKind.i64 y_1.fst.n)],
                                                                                              AD.v (Value.int IntKind.i64 (5 : Int))] =
                                                                                            [AD.agg
                                                                                                [D.v (Value.int IntKind.i64 w.s), D.v (Value.bool w.p),
                                                                                                  D.v (Value.int IntKind.i64 w.n)],
                                                                                              AD.v (Value.int IntKind.i64 e)]) ∧
                                                                                      ((!y_2.snd.fst.ask) = false →
                                                                                          ((!y_2.fst.p) = true → (false = true ∧ True) ∧ True) ∧
                                                                                            ((!y_2.fst.p) = false →
                                                                                              True ∧
                                                                                                ∃ (g' : Int),
                                                                                                  ((0 : Int) ≤ g' ∧ g' ≤ (3 : Int)) ∧
                                                                                                    ((3 : Int) - g').toNat < ((3 : Int) - g).toNat ∧
                                                                                                      (IntKind.i64.wrap (g + (1 : Int)) = g' ∧
                                                                                                          (y_2.fst.s =
                                                                                                              if g' = (3 : Int) then (1 : Int) else (4 : Int)) ∧
                                                                                                            y_2.fst.p = !decide (g' = (3 : Int)) ∧
                                                                                                              (y_2.fst.n =
                                                                                                                  if g' = (3 : Int) then (0 : Int) else g') ∧
                                                                                                                y_2.snd.fst.back = decide (g' = (3 : Int)) ∧
                                                                                                                  (true && true) = true) ∧
                                                                                                        (some (SV.c (Value.bool !y.snd.fst.ask)) =
                                                                                                              some (SV.c (Value.bool !y.snd.fst.ask)) ∧
                                                                                                            some (SV.c (Value.bool !y.snd.fst.ask)) =
                                                                                                                some (SV.c (Value.bool !y.snd.fst.ask)) ∧
                                                                                                              some (SV.c (Value.bool y.snd.fst.ask)) =
                                                                                                                  some (SV.c (Value.bool y.snd.fst.ask)) ∧
                                                                                                                some (SV.p (1 : Nat) (0 : Nat)) =
                                                                                                                    some (SV.p (1 : Nat) (0 : Nat)) ∧
                                                                                                                  some (SV.b false) = some (SV.b false) ∧
                                                                                                                    some
                                                                                                                          (SV.c
                                                                                                                            (Value.bool
                                                                                                                              !decide (y.fst.s = (4 : Int)))) =
                                                                                                                        some
                                                                                                                          (SV.c
                                                                                                                            (Value.bool
                                                                                                                              !decide (y.fst.s = (4 : Int)))) ∧
                                                                                                                      some
                                                                                                                            (SV.c
                                                                                                                              (Value.bool
                                                                                                                                !decide
                                                                                                                                    (y.fst.s = (4 : Int)))) =
                                                                                                                          some
                                                                                                                            (SV.c
                                                                                                                              (Value.bool
                                                                                                                                !decide
                                                                                                                                    (y.fst.s = (4 : Int)))) ∧
                                                                                                                        some
                                                                                                                              (SV.c
                                                                                                                                (Value.int IntKind.i64
                                                                                                                                  y.fst.s)) =
                                                                                                                            some
                                                                                                                              (SV.c
                                                                                                                                (Value.int IntKind.i64
                                                                                                                                  y.fst.s)) ∧
                                                                                                                          some (SV.p (0 : Nat) (0 : Nat)) =
                                                                                                                              some (SV.p (0 : Nat) (0 : Nat)) ∧
                                                                                                                            some (SV.b false) =
                                                                                                                                some (SV.b false) ∧
                                                                                                                              some
                                                                                                                                    (SV.c
                                                                                                                                      (Value.bool
                                                                                                                                        !decide
                                                                                                                                            (y.snd.snd =
                                                                                                                                              (0 : Int)))) =
                                                                                                                                  some
                                                                                                                                    (SV.c
                                                                                                                                      (Value.bool
                                                                                                                                        !decide
                                                                                                                                            (y.snd.snd =
                                                                                                                                              (0 : Int)))) ∧
                                                                                                                                some
                                                                                                                                      (SV.c
                                                                                                                                        (Value.bool
                                                                                                                                          !decide
                                                                                                                                              (y.snd.snd =
                                                                                                                                                (0 : Int)))) =
                                                                                                                                    some
                                                                                                                                      (SV.c
                                                                                                                                        (Value.bool
                                                                                                                                          !decide
                                                                                                                                              (y.snd.snd =
                                                                                                                                                (0 : Int)))) ∧
                                                                                                                                  some
                                                                                                                                        (SV.c
                                                                                                                                          (Value.int IntKind.i64
                                                                                                                                            y.snd.snd)) =
                                                                                                                                      some
                                                                                                                                        (SV.c
                                                                                                                                          (Value.int IntKind.i64
                                                                                                                                            y.snd.snd)) ∧
                                                                                                                                    some (SV.b false) =
                                                                                                                                        some (SV.b false) ∧
                                                                                                                                      some
                                                                                                                                            (SV.c
                                                                                                                                              (Value.bool
                                                                                                                                                !true)) =
                                                                                                                                          some
                                                                                                                                            (SV.c
                                                                                                                                              (Value.bool
                                                                                                                                                !true)) ∧
                                                                                                                                        some
                                                                                                                                              (SV.c
                                                                                                                                                (Value.bool
                                                                                                                                                  true)) =
                                                                                                                                            some
                                                                                                                                              (SV.c
                                                                                                                                                (Value.bool
                                                                                                                                                  true)) ∧
                                                                                                                                          some
                                                                                                                                                (SV.c
                                                                                                                                                  (Value.int
                                                                                                                                                    IntKind.i64
                                                                                                                                                    y.snd.snd)) =
                                                                                                                                              some
                                                                                                                                                (SV.c
                                                                                                                                                  (Value.int
                                                                                                                                                    IntKind.i64
                                                                                                                                                    y.snd.snd)) ∧
                                                                                                                                            some
                                                                                                                                                  (SV.p
                                                                                                                                                    (1 : Nat)
                                                                                                                                                    (0 : Nat)) =
                                                                                                                                                some
                                                                                                                                                  (SV.p
                                                                                                                                                    (1 : Nat)
                                                                                                                                                    (0 : Nat)) ∧
                                                                                                                                              some
                                                                                                                                                    (SV.p
                                                                                                                                                      (0 : Nat)
                                                                                                                                                      (0 :
                                                                                                                                                        Nat)) =
                                                                                                                                                  some
                                                                                                                                                    (SV.p
                                                                                                                                                      (0 : Nat)
                                                                                                                                                      (0 :
                                                                                                                                                        Nat)) ∧
                                                                                                                                                some
                                                                                                                                                      (SV.c
                                                                                                                                                        (Value.int
                                                                                                                                                          IntKind.i64
                                                                                                                                                          y.snd.snd)) =
                                                                                                                                                    some
                                                                                                                                                      (SV.c
                                                                                                                                                        (Value.int
                                                                                                                                                          IntKind.i64
                                                                                                                                                          y.snd.snd)) ∧
                                                                                                                                                  some
                                                                                                                                                        (SV.agg
                                                                                                                                                          [SV.c
                                                                                                                                                              (Value.bool
                                                                                                                                                                y.snd.fst.ask),
                                                                                                                                                            SV.c
                                                                                                                                                              (Value.bool
                                                                                                                                                                y.snd.fst.fail),
                                                                                                                                                            SV.c
                                                                                                                                                              (Value.bool
                                                                                                                                                                y.snd.fst.back),
                                                                                                                                                            SV.c
                                                                                                                                                              (Value.bool
                                                                                                                                                                y.snd.fst.close),
                                                                                                                                                            SV.c
                                                                                                                                                              (Value.bool
                                                                                                                                                                y.snd.fst.tri),
                                                                                                                                                            SV.c
                                                                                                                                                              (Value.bool
                                                                                                                                                                y.snd.fst.wind)]) =
                                                                                                                                                      some
                                                                                                                                                        (SV.agg
                                                                                                                                                          [SV.c
                                                                                                                                                              (Value.bool
                                                                                                                                                                y.snd.fst.ask),
                                                                                                                                                            SV.c
                                                                                                                                                              (Value.bool
                                                                                                                                                                y.snd.fst.fail),
                                                                                                                                                            SV.c
                                                                                                                                                              (Value.bool
                                                                                                                                                                y.snd.fst.back),
                                                                                                                                                            SV.c
                                                                                                                                                              (Value.bool
                                                                                                                                                                y.snd.fst.close),
                                                                                                                                                            SV.c
                                                                                                                                                              (Value.bool
                                                                                                                                                                y.snd.fst.tri),
                                                                                                                                                            SV.c
                                                                                                                                                              (Value.bool
                                                                                                                                                                y.snd.fst.wind)]) ∧
                                                                                                                                                    some
                                                                                                                                                          (SV.agg
                                                                                                                                                            [SV.c
                                                                                                                                                                (Value.int
                                                                                                                                                                  IntKind.i64
                                                                                                                                                                  y.fst.s),
                                                                                                                                                              SV.c
                                                                                                                                                                (Value.bool
                                                                                                                                                                  y.fst.p),
                                                                                                                                                              SV.c
                                                                                                                                                                (Value.int
                                                                                                                                                                  IntKind.i64
                                                                                                                                                                  y.fst.n)]) =
                                                                                                                                                        some
                                                                                                                                                          (SV.agg
                                                                                                                                                            [SV.c
                                                                                                                                                                (Value.int
                                                                                                                                                                  IntKind.i64
                                                                                                                                                                  y.fst.s),
                                                                                                                                                              SV.c
                                                                                                                                                                (Value.bool
                                                                                                                                                                  y.fst.p),
                                                                                                                                                              SV.c
                                                                                                                                                                (Value.int
                                                                                                                                                                  IntKind.i64
                                                                                                                                                                  y.fst.n)]) ∧
                                                                                                                                                      some
                                                                                                                                                            (SV.tup
                                                                                                                                                              [SV.agg
                                                                                                                                                                  [SV.c
                                                                                                                                                                      (Value.int
                                                                                                                                                                        IntKind.i64
                                                                                                                                                                        y.fst.s),
                                                                                                                                                                    SV.c
                                                                                                                                                                      (Value.bool
                                                                                                                                                                        y.fst.p),
                                                                                                                                                                    SV.c
                                                                                                                                                                      (Value.int
                                                                                                                                                                        IntKind.i64
                                                                                                                                                                        y.fst.n)],
                                                                                                                                                                SV.agg
                                                                                                                                                                  [SV.c
                                                                                                                                                                      (Value.bool
                                                                                                                                                                        y.snd.fst.ask),
                                                                                                                                                                    SV.c
                                                                                                                                                                      (Value.bool
                                                                                                                                                                        y.snd.fst.fail),
                                                                                                                                                                    SV.c
                                                                                                                                                                      (Value.bool
                                                                                                                                                                        y.snd.fst.back),
                                                                                                                                                                    SV.c
                                                                                                                                                                      (Value.bool
                                                                                                                                                                        y.snd.fst.close),
                                                                                                                                                                    SV.c
                                                                                                                                                                      (Value.bool
                                                                                                                                                                        y.snd.fst.tri),
                                                                                                                                                                    SV.c
                                                                                                                                                                      (Value.bool
                                                                                                                                                                        y.snd.fst.wind)],
                                                                                                                                                                SV.c
                                                                                                                                                                  (Value.int
                                                                                                                                                                    IntKind.i64
                                                                                                                                                                    y.snd.snd)]) =
                                                                                                                                                          some
                                                                                                                                                            (SV.tup
                                                                                                                                                              [SV.agg
                                                                                                                                                                  [SV.c
                                                                                                                                                                      (Value.int
                                                                                                                                                                        IntKind.i64
                                                                                                                                                                        y.fst.s),
                                                                                                                                                                    SV.c
                                                                                                                                                                      (Value.bool
                                                                                                                                                                        y.fst.p),
                                                                                                                                                                    SV.c
                                                                                                                                                                      (Value.int
                                                                                                                                                                        IntKind.i64
                                                                                                                                                                        y.fst.n)],
                                                                                                                                                                SV.agg
                                                                                                                                                                  [SV.c
                                                                                                                                                                      (Value.bool
                                                                                                                                                                        y.snd.fst.ask),
                                                                                                                                                                    SV.c
                                                                                                                                                                      (Value.bool
                                                                                                                                                                        y.snd.fst.fail),
                                                                                                                                                                    SV.c
                                                                                                                                                                      (Value.bool
                                                                                                                                                                        y.snd.fst.back),
                                                                                                                                                                    SV.c
                                                                                                                                                                      (Value.bool
                                                                                                                                                                        y.snd.fst.close),
                                                                                                                                                                    SV.c
                                                                                                                                                                      (Value.bool
                                                                                                                                                                        y.snd.fst.tri),
                                                                                                                                                                    SV.c
                                                                                                                                                                      (Value.bool
                                                                                                                                                                        y.snd.fst.wind)],
                                                                                                                                                                SV.c
                                                                                                                                                                  (Value.int
                                                                                                                                                                    IntKind.i64
                                                                                                                                                                    y.snd.snd)]) ∧
                                                                                                                                                        some
                                                                                                                                                              (SV.tup
                                                                                                                                                                [SV.agg
                                                                                                                                                                    [SV.c
                                                                                                                                                                        (Value.int
                                                                                                                                                                          IntKind.i64
                                                                                                                                                                          y.fst.s),
                                                                                                                                                                      SV.c
                                                                                                                                                                        (Value.bool
                                                                                                                                                                          y.fst.p),
                                                                                                                                                                      SV.c
                                                                                                                                                                        (Value.int
                                                                                                                                                                          IntKind.i64
                                                                                                                                                                          y.fst.n)],
                                                                                                                                                                  SV.agg
                                                                                                                                                                    [SV.c
                                                                                                                                                                        (Value.bool
                                                                                                                                                                          y.snd.fst.ask),
                                                                                                                                                                      SV.c
                                                                                                                                                                        (Value.bool
                                                                                                                                                                          y.snd.fst.fail),
                                                                                                                                                                      SV.c
                                                                                                                                                                        (Value.bool
                                                                                                                                                                          y.snd.fst.back),
                                                                                                                                                                      SV.c
                                                                                                                                                                        (Value.bool
                                                                                                                                                                          y.snd.fst.close),
                                                                                                                                                                      SV.c
                                                                                                                                                                        (Value.bool
                                                                                                                                                                          y.snd.fst.tri),
                                                                                                                                                                      SV.c
                                                                                                                                                                        (Value.bool
                                                                                                                                                                          y.snd.fst.wind)],
                                                                                                                                                                  SV.c
                                                                                                                                                                    (Value.int
                                                                                                                                                                      IntKind.i64
                                                                                                                                                                      y.snd.snd)]) =
                                                                                                                                                            some
                                                                                                                                                              (SV.tup
                                                                                                                                                                [SV.agg
                                                                                                                                                                    [SV.c
                                                                                                                                                                        (Value.int
                                                                                                                                                                          IntKind.i64
                                                                                                                                                                          y.fst.s),
                                                                                                                                                                      SV.c
                                                                                                                                                                        (Value.bool
                                                                                                                                                                          y.fst.p),
                                                                                                                                                                      SV.c
                                                                                                                                                                        (Value.int
                                                                                                                                                                          IntKind.i64
                                                                                                                                                                          y.fst.n)],
                                                                                                                                                                  SV.agg
                                                                                                                                                                    [SV.c
                                                                                                                                                                        (Value.bool
                                                                                                                                                                          y.snd.fst.ask),
                                                                                                                                                                      SV.c
                                                                                                                                                                        (Value.bool
                                                                                                                                                                          y.snd.fst.fail),
                                                                                                                                                                      SV.c
                                                                                                                                                                        (Value.bool
                                                                                                                                                                          y.snd.fst.back),
                                                                                                                                                                      SV.c
                                                                                                                                                                        (Value.bool
                                                                                                                                                                          y.snd.fst.close),
                                                                                                                                                                      SV.c
                                                                                                                                                                        (Value.bool
                                                                                                                                                                          y.snd.fst.tri),
                                                                                                                                                                      SV.c
                                                                                                                                                                        (Value.bool
                                                                                                                                                                          y.snd.fst.wind)],
                                                                                                                                                                  SV.c
                                                                                                                                                                    (Value.int
                                                                                                                                                                      IntKind.i64
                                                                                                                                                                      y.snd.snd)]) ∧
                                                                                                                                                          some
                                                                                                                                                                (SV.agg
                                                                                                                                                                  [SV.c
                                                                                                                                                                      (Value.int
                                                                                                                                                                        IntKind.i64
                                                                                                                                                                        (3 :
                                                                                                                                                                          Int)),
                                                                                                                                                                    SV.b
                                                                                                                                                                      false,
                                                                                                                                                                    SV.c
                                                                                                                                                                      (Value.int
                                                                                                                                                                        IntKind.i64
                                                                                                                                                                        (0 :
                                                                                                                                                                          Int))]) =
                                                                                                                                                              some
                                                                                                                                                                (SV.agg
                                                                                                                                                                  [SV.c
                                                                                                                                                                      (Value.int
                                                                                                                                                                        IntKind.i64
                                                                                                                                                                        (3 :
                                                                                                                                                                          Int)),
                                                                                                                                                                    SV.b
                                                                                                                                                                      false,
                                                                                                                                                                    SV.c
                                                                                                                                                                      (Value.int
                                                                                                                                                                        IntKind.i64
                                                                                                                                                                        (0 :
                                                                                                                                                                          Int))]) ∧
                                                                                                                                                            some
                                                                                                                                                                  (SV.c
                                                                                                                                                                    (Value.int
                                                                                                                                                                      IntKind.u8
                                                                                                                                                                      o)) =
                                                                                                                                                                some
                                                                                                                                                                  (SV.c
                                                                                                                                                                    (Value.int
                                                                                                                                                                      IntKind.u8
                                                                                                                                                                      o)) ∧
                                                                                                                                                              True) ∧
                                                                                                          True)) ∧
                                                                                        ((!y_2.snd.fst.ask) = !false → (false = true ∧ True) ∧ True))) ∧
                                                                              (y_1.snd.fst.back = !false → (false = true ∧ True) ∧ True)) ∧
                                                                          (decide (g < (2 : Int)) = false →
                                                                            True ∧
                                                                              ∃ (g' : Int),
                                                                                ((0 : Int) ≤ g' ∧ g' ≤ (3 : Int)) ∧
                                                                                  ((3 : Int) - g').toNat < ((3 : Int) - g).toNat ∧
                                                                                    (IntKind.i64.wrap (g + (1 : Int)) = g' ∧
                                                                                        (y_1.fst.s = if g' = (3 : Int) then (1 : Int) else (4 : Int)) ∧
                                                                                          y_1.fst.p = !decide (g' = (3 : Int)) ∧
                                                                                            (y_1.fst.n = if g' = (3 : Int) then (0 : Int) else g') ∧
                                                                                              y_1.snd.fst.back = decide (g' = (3 : Int)) ∧
                                                                                                (true && true) = true) ∧
                                                                                      (some (SV.c (Value.bool !y.snd.fst.ask)) =
                                                                                            some (SV.c (Value.bool !y.snd.fst.ask)) ∧
                                                                                          some (SV.c (Value.bool !y.snd.fst.ask)) =
                                                                                              some (SV.c (Value.bool !y.snd.fst.ask)) ∧
                                                                                            some (SV.c (Value.bool y.snd.fst.ask)) =
                                                                                                some (SV.c (Value.bool y.snd.fst.ask)) ∧
                                                                                              some (SV.p (1 : Nat) (0 : Nat)) =
                                                                                                  some (SV.p (1 : Nat) (0 : Nat)) ∧
                                                                                                some (SV.b false) = some (SV.b false) ∧
                                                                                                  some (SV.c (Value.bool !decide (y.fst.s = (4 : Int)))) =
                                                                                                      some (SV.c (Value.bool !decide (y.fst.s = (4 : Int)))) ∧
                                                                                                    some (SV.c (Value.bool !decide (y.fst.s = (4 : Int)))) =
                                                                                                        some (SV.c (Value.bool !decide (y.fst.s = (4 : Int)))) ∧
                                                                                                      some (SV.c (Value.int IntKind.i64 y.fst.s)) =
                                                                                                          some (SV.c (Value.int IntKind.i64 y.fst.s)) ∧
                                                                                                        some (SV.p (0 : Nat) (0 : Nat)) =
                                                                                                            some (SV.p (0 : Nat) (0 : Nat)) ∧
                                                                                                          some (SV.b false) = some (SV.b false) ∧
                                                                                                            some
                                                                                                                  (SV.c
                                                                                                                    (Value.bool
                                                                                                                      !decide (y.snd.snd = (0 : Int)))) =
                                                                                                                some
                                                                                                                  (SV.c
                                                                                                                    (Value.bool
                                                                                                                      !decide (y.snd.snd = (0 : Int)))) ∧
                                                                                                              some
                                                                                                                    (SV.c
                                                                                                                      (Value.bool
                                                                                                                        !decide (y.snd.snd = (0 : Int)))) =
                                                                                                                  some
                                                                                                                    (SV.c
                                                                                                                      (Value.bool
                                                                                                                        !decide (y.snd.snd = (0 : Int)))) ∧
                                                                                                                some (SV.c (Value.int IntKind.i64 y.snd.snd)) =
                                                                                                                    some
                                                                                                                      (SV.c (Value.int IntKind.i64 y.snd.snd)) ∧
                                                                                                                  some (SV.b false) = some (SV.b false) ∧
                                                                                                                    some (SV.c (Value.bool !true)) =
                                                                                                                        some (SV.c (Value.bool !true)) ∧
                                                                                                                      some (SV.c (Value.bool true)) =
                                                                                                                          some (SV.c (Value.bool true)) ∧
                                                                                                                        some
                                                                                                                              (SV.c
                                                                                                                                (Value.int IntKind.i64
                                                                                                                                  y.snd.snd)) =
                                                                                                                            some
                                                                                                                              (SV.c
                                                                                                                                (Value.int IntKind.i64
                                                                                                                                  y.snd.snd)) ∧
                                                                                                                          some (SV.p (1 : Nat) (0 : Nat)) =
                                                                                                                              some (SV.p (1 : Nat) (0 : Nat)) ∧
                                                                                                                            some (SV.p (0 : Nat) (0 : Nat)) =
                                                                                                                                some
                                                                                                                                  (SV.p (0 : Nat) (0 : Nat)) ∧
                                                                                                                              some
                                                                                                                                    (SV.c
                                                                                                                                      (Value.int IntKind.i64
                                                                                                                                        y.snd.snd)) =
                                                                                                                                  some
                                                                                                                                    (SV.c
                                                                                                                                      (Value.int IntKind.i64
                                                                                                                                        y.snd.snd)) ∧
                                                                                                                                some
                                                                                                                                      (SV.agg
                                                                                                                                        [SV.c
                                                                                                                                            (Value.bool
                                                                                                                                              y.snd.fst.ask),
                                                                                                                                          SV.c
                                                                                                                                            (Value.bool
                                                                                                                                              y.snd.fst.fail),
                                                                                                                                          SV.c
                                                                                                                                            (Value.bool
                                                                                                                                              y.snd.fst.back),
                                                                                                                                          SV.c
                                                                                                                                            (Value.bool
                                                                                                                                              y.snd.fst.close),
                                                                                                                                          SV.c
                                                                                                                                            (Value.bool
                                                                                                                                              y.snd.fst.tri),
                                                                                                                                          SV.c
                                                                                                                                            (Value.bool
                                                                                                                                              y.snd.fst.wind)]) =
                                                                                                                                    some
                                                                                                                                      (SV.agg
                                                                                                                                        [SV.c
                                                                                                                                            (Value.bool
                                                                                                                                              y.snd.fst.ask),
                                                                                                                                          SV.c
                                                                                                                                            (Value.bool
                                                                                                                                              y.snd.fst.fail),
                                                                                                                                          SV.c
                                                                                                                                            (Value.bool
                                                                                                                                              y.snd.fst.back),
                                                                                                                                          SV.c
                                                                                                                                            (Value.bool
                                                                                                                                              y.snd.fst.close),
                                                                                                                                          SV.c
                                                                                                                                            (Value.bool
                                                                                                                                              y.snd.fst.tri),
                                                                                                                                          SV.c
                                                                                                                                            (Value.bool
                                                                                                                                              y.snd.fst.wind)]) ∧
                                                                                                                                  some
                                                                                                                                        (SV.agg
                                                                                                                                          [SV.c
                                                                                                                                              (Value.int
                                                                                                                                                IntKind.i64
                                                                                                                                                y.fst.s),
                                                                                                                                            SV.c
                                                                                                                                              (Value.bool
                                                                                                                                                y.fst.p),
                                                                                                                                            SV.c
                                                                                                                                              (Value.int
                                                                                                                                                IntKind.i64
                                                                                                                                                y.fst.n)]) =
                                                                                                                                      some
                                                                                                                                        (SV.agg
                                                                                                                                          [SV.c
                                                                                                                                              (Value.int
                                                                                                                                                IntKind.i64
                                                                                                                                                y.fst.s),
                                                                                                                                            SV.c
                                                                                                                                              (Value.bool
                                                                                                                                                y.fst.p),
                                                                                                                                            SV.c
                                                                                                                                              (Value.int
                                                                                                                                                IntKind.i64
                                                                                                                                                y.fst.n)]) ∧
                                                                                                                                    some
                                                                                                                                          (SV.tup
                                                                                                                                            [SV.agg
                                                                                                                                                [SV.c
                                                                                                                                                    (Value.int
                                                                                                                                                      IntKind.i64
                                                                                                                                                      y.fst.s),
                                                                                                                                                  SV.c
                                                                                                                                                    (Value.bool
                                                                                                                                                      y.fst.p),
                                                                                                                                                  SV.c
                                                                                                                                                    (Value.int
                                                                                                                                                      IntKind.i64
                                                                                                                                                      y.fst.n)],
                                                                                                                                              SV.agg
                                                                                                                                                [SV.c
                                                                                                                                                    (Value.bool
                                                                                                                                                      y.snd.fst.ask),
                                                                                                                                                  SV.c
                                                                                                                                                    (Value.bool
                                                                                                                                                      y.snd.fst.fail),
                                                                                                                                                  SV.c
                                                                                                                                                    (Value.bool
                                                                                                                                                      y.snd.fst.back),
                                                                                                                                                  SV.c
                                                                                                                                                    (Value.bool
                                                                                                                                                      y.snd.fst.close),
                                                                                                                                                  SV.c
                                                                                                                                                    (Value.bool
                                                                                                                                                      y.snd.fst.tri),
                                                                                                                                                  SV.c
                                                                                                                                                    (Value.bool
                                                                                                                                                      y.snd.fst.wind)],
                                                                                                                                              SV.c
                                                                                                                                                (Value.int
                                                                                                                                                  IntKind.i64
                                                                                                                                                  y.snd.snd)]) =
                                                                                                                                        some
                                                                                                                                          (SV.tup
                                                                                                                                            [SV.agg
                                                                                                                                                [SV.c
                                                                                                                                                    (Value.int
                                                                                                                                                      IntKind.i64
                                                                                                                                                      y.fst.s),
                                                                                                                                                  SV.c
                                                                                                                                                    (Value.bool
                                                                                                                                                      y.fst.p),
                                                                                                                                                  SV.c
                                                                                                                                                    (Value.int
                                                                                                                                                      IntKind.i64
                                                                                                                                                      y.fst.n)],
                                                                                                                                              SV.agg
                                                                                                                                                [SV.c
                                                                                                                                                    (Value.bool
                                                                                                                                                      y.snd.fst.ask),
                                                                                                                                                  SV.c
                                                                                                                                                    (Value.bool
                                                                                                                                                      y.snd.fst.fail),
                                                                                                                                                  SV.c
                                                                                                                                                    (Value.bool
                                                                                                                                                      y.snd.fst.back),
                                                                                                                                                  SV.c
                                                                                                                                                    (Value.bool
                                                                                                                                                      y.snd.fst.close),
                                                                                                                                                  SV.c
                                                                                                                                                    (Value.bool
                                                                                                                                                      y.snd.fst.tri),
                                                                                                                                                  SV.c
                                                                                                                                                    (Value.bool
                                                                                                                                                      y.snd.fst.wind)],
                                                                                                                                              SV.c
                                                                                                                                                (Value.int
                                                                                                                                                  IntKind.i64
                                                                                                                                                  y.snd.snd)]) ∧
                                                                                                                                      some
                                                                                                                                            (SV.tup
                                                                                                                                              [SV.agg
                                                                                                                                                  [SV.c
                                                                                                                                                      (Value.int
                                                                                                                                                        IntKind.i64
                                                                                                                                                        y.fst.s),
                                                                                                                                                    SV.c
                                                                                                                                                      (Value.bool
                                                                                                                                                        y.fst.p),
                                                                                                                                                    SV.c
                                                                                                                                                      (Value.int
                                                                                                                                                        IntKind.i64
                                                                                                                                                        y.fst.n)],
                                                                                                                                                SV.agg
                                                                                                                                                  [SV.c
                                                                                                                                                      (Value.bool
                                                                                                                                                        y.snd.fst.ask),
                                                                                                                                                    SV.c
                                                                                                                                                      (Value.bool
                                                                                                                                                        y.snd.fst.fail),
                                                                                                                                                    SV.c
                                                                                                                                                      (Value.bool
                                                                                                                                                        y.snd.fst.back),
                                                                                                                                                    SV.c
                                                                                                                                                      (Value.bool
                                                                                                                                                        y.snd.fst.close),
                                                                                                                                                    SV.c
                                                                                                                                                      (Value.bool
                                                                                                                                                        y.snd.fst.tri),
                                                                                                                                                    SV.c
                                                                                                                                                      (Value.bool
                                                                                                                                                        y.snd.fst.wind)],
                                                                                                                                                SV.c
                                                                                                                                                  (Value.int
                                                                                                                                                    IntKind.i64
                                                                                                                                                    y.snd.snd)]) =
                                                                                                                                          some
                                                                                                                                            (SV.tup
                                                                                                                                              [SV.agg
                                                                                                                                                  [SV.c
                                                                                                                                                      (Value.int
                                                                                                                                                        IntKind.i64
                                                                                                                                                        y.fst.s),
                                                                                                                                                    SV.c
                                                                                                                                                      (Value.bool
                                                                                                                                                        y.fst.p),
                                                                                                                                                    SV.c
                                                                                                                                                      (Value.int
                                                                                                                                                        IntKind.i64
                                                                                                                                                        y.fst.n)],
                                                                                                                                                SV.agg
                                                                                                                                                  [SV.c
                                                                                                                                                      (Value.bool
                                                                                                                                                        y.snd.fst.ask),
                                                                                                                                                    SV.c
                                                                                                                                                      (Value.bool
                                                                                                                                                        y.snd.fst.fail),
                                                                                                                                                    SV.c
                                                                                                                                                      (Value.bool
                                                                                                                                                        y.snd.fst.back),
                                                                                                                                                    SV.c
                                                                                                                                                      (Value.bool
                                                                                                                                                        y.snd.fst.close),
                                                                                                                                                    SV.c
                                                                                                                                                      (Value.bool
                                                                                                                                                        y.snd.fst.tri),
                                                                                                                                                    SV.c
                                                                                                                                                      (Value.bool
                                                                                                                                                        y.snd.fst.wind)],
                                                                                                                                                SV.c
                                                                                                                                                  (Value.int
                                                                                                                                                    IntKind.i64
                                                                                                                                                    y.snd.snd)]) ∧
                                                                                                                                        some
                                                                                                                                              (SV.agg
                                                                                                                                                [SV.c
                                                                                                                                                    (Value.int
                                                                                                                                                      IntKind.i64
                                                                                                                                                      (3 :
                                                                                                                                                        Int)),
                                                                                                                                                  SV.b false,
                                                                                                                                                  SV.c
                                                                                                                                                    (Value.int
                                                                                                                                                      IntKind.i64
                                                                                                                                                      (0 :
                                                                                                                                                        Int))]) =
                                                                                                                                            some
                                                                                                                                              (SV.agg
                                                                                                                                                [SV.c
                                                                                                                                                    (Value.int
                                                                                                                                                      IntKind.i64
                                                                                                                                                      (3 :
                                                                                                                                                        Int)),
                                                                                                                                                  SV.b false,
                                                                                                                                                  SV.c
                                                                                                                                                    (Value.int
                                                                                                                                                      IntKind.i64
                                                                                                                                                      (0 :
                                                                                                                                                        Int))]) ∧
                                                                                                                                          some
                                                                                                                                                (SV.c
                                                                                                                                                  (Value.int
                                                                                                                                                    IntKind.u8
                                                                                                                                                    o)) =
                                                                                                                                              some
                                                                                                                                                (SV.c
                                                                                                                                                  (Value.int
                                                                                                                                                    IntKind.u8
                                                                                                                                                    o)) ∧
                                                                                                                                            True) ∧
                                                                                        True)))) ∧
                                          (decide (g < (3 : Int)) = false →
                                            True ∧
                                              (decide ((if g = (3 : Int) then (1 : Int) else (4 : Int)) = (1 : Int)) = true →
                                                  (decide (g = (3 : Int)) = true → ((!!decide (g = (3 : Int))) = true ∧ True) ∧ True) ∧
                                                    (decide (g = (3 : Int)) = !true → (false = true ∧ True) ∧ True)) ∧
                                                (decide ((if g = (3 : Int) then (1 : Int) else (4 : Int)) = (1 : Int)) = !true →
                                                  (false = true ∧ True) ∧ True)))) ∧
                      ((!decide (y.fst.s = (4 : Int))) = !false → (false = true ∧ True) ∧ True)) ∧
                ((!decide (y.snd.snd = (0 : Int))) = !false → (false = true ∧ True) ∧ True)) ∧
          ((!true) = !false → (false = true ∧ True) ∧ True) := by
  intro y o ho
  have hy : y = (⟨4, true, 0⟩, ⟨true, false, false, false, false, true⟩, 0) := by simp [y, stepF, openedF]
  clear_value y
  subst hy
  refine ⟨⟨⟨3, false, 0⟩, 1, rfl⟩, rfl, ?_, fun h => by simp at h⟩
  refine fun _ => ⟨trivial, fun _ => ⟨trivial, fun _ => ⟨fun h => by simp at h, fun _ => ?_⟩, fun h => by simp at h⟩, fun h => by simp at h⟩
  refine ⟨0, by simp, by simp, ?_⟩
  intro g y1 y2 y3 hg
  by_cases h3 : g = 3
  · simp [h3]
  have hg3 : g < 3 := by omega
  have e1 : y1 = if g < 2 then (⟨4, false, g + 1⟩, noDo, 0) else (⟨1, false, 0⟩, ⟨false, false, true, false, false, true⟩, 0) := by
    have : g = 0 ∨ g = 1 ∨ g = 2 := by omega
    rcases this with rfl | rfl | rfl <;> simp [y1, stepF, heardF]
  have e3 : y3 = (⟨4, true, g⟩, noDo, 0) := by
    have : g = 0 ∨ g = 1 ∨ g = 2 := by omega
    rcases this with rfl | rfl | rfl <;> simp [y3, stepF, heardF]
  have e2 : g < 2 → y2 = (⟨4, true, g + 1⟩, ⟨true, false, false, false, false, true⟩, 0) := by
    intro h
    have : g = 0 ∨ g = 1 := by omega
    rcases this with rfl | rfl <;> simp [y2, e1, stepF, alarmF]
  clear_value y1 y2 y3
  have ho4 : 0 ≤ o.tmod 4 ∧ o.tmod 4 ≤ 3 := by have := Int.tmod_nonneg 4 ho.1; have := Int.tmod_lt_of_pos o (show (0 : Int) < 4 by decide); omega
  have hw4 : IntKind.i64.wrap (o.tmod 4) = o.tmod 4 := IntWalk.i64_in _ (by omega)
  have hwg : IntKind.i64.wrap (g + 1) = g + 1 := IntWalk.i64_in _ (by omega)
  by_cases h2 : g < 2
  · have e2' := e2 h2
    rw [if_pos h2] at e1
    subst e1 e2' e3
    simp [h3, hg3, h2, hw4, hwg, noDo]
    refine ⟨0, by simp, rfl, fun k hk1 hk2 => ⟨fun hlt => ⟨⟨⟨4, true, g⟩, rfl, rfl, rfl⟩, ?_⟩, fun _ => ⟨⟨⟨4, true, g⟩, rfl, rfl, rfl⟩, ⟨⟨4, false, g + 1⟩, rfl, rfl, rfl⟩, g + 1, by omega, by omega, rfl, by omega, ?_, by omega⟩⟩⟩
    · rw [IntWalk.i64_in (k + 1) (by omega)]; omega
    · rw [if_neg (by omega)]
  · rw [if_neg h2] at e1
    subst e1 e3
    simp [h3, hg3, h2, hw4, hwg]
    refine ⟨0, by simp, rfl, fun k hk1 hk2 => ⟨fun hlt => ⟨⟨⟨4, true, g⟩, rfl, rfl, rfl⟩, ?_⟩, fun _ => ⟨⟨⟨4, true, g⟩, rfl, rfl, rfl⟩, g + 1, by omega, by omega, rfl, by omega, by omega, by omega⟩⟩⟩
    rw [IntWalk.i64_in (k + 1) (by omega)]; omega
theorem ok9 : FnIs Try.prog 9 trustsC := by
  refine fnIs (C := ctrs c5) (by kernel_rfl) c5_ok Try.func9 (code := code9) (by kernel_rfl) (by kernel_rfl) ?_
  rintro a ⟨o, rfl, h⟩
  exact ⟨anns [(5, trustsAnn), (8, othersAnn)], kcast (vc9 o h) (by kernel_rfl)⟩

end Go.XR
