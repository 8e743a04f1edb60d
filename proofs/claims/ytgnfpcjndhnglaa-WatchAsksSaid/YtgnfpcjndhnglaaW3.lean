/- The statement WatchAsks. -/
import Derived.Test.YtgnfpcjndhnglaaRows
import Derived.Test.YtgnfpcjndhnglaaM
import Derived.Test.YtgnfpcjndhnglaaW1
import Derived.Test.YtgnfpcjndhnglaaW2
namespace Go.XR
open Go.Proofs
open Go.X Go.XM Go.RowKit
theorem c5_ok : COk Try.prog (ctrs c5) := cok_cons ok19 (cok_cons ok21 cok_nil)
noncomputable def code10 : Code := match Try.f10.body with | some c => c | none => .skip
theorem vc10 : ∀ (xs : List Int),
  (∀ (x : Int), x ∈ xs → (0 : Int) ≤ x ∧ x ≤ (255 : Int)) →
    xs.length ≤ (9223372036854775807 : Nat) →
      ∃ (g0 : Int × Bool),
        ((0 : Int) ≤ g0.fst ∧ g0.fst ≤ (200 : Int)) ∧
          ((0 : Int) = g0.fst ∧ (1 : Int) = (1 : Int) ∧ false = g0.snd ∧ (0 : Int) = (0 : Int) ∧ (true && true) = true) ∧
            ∀ (g : Int × Bool),
              (0 : Int) ≤ g.fst ∧ g.fst ≤ (200 : Int) →
                True ∧
                  (decide (g.fst < ↑xs.length) = true →
                      True ∧
                        (decide (g.fst < (200 : Int)) = true →
                            (∃ (w : Wt),
                                ∃ (e : Int),
                                  [AD.agg [D.v (Value.int IntKind.i64 (1 : Int)), D.v (Value.bool g.snd), D.v (Value.int IntKind.i64 (0 : Int))],
                                      AD.v (Value.int IntKind.i64 (3 : Int))] =
                                    [AD.agg [D.v (Value.int IntKind.i64 w.s), D.v (Value.bool w.p), D.v (Value.int IntKind.i64 w.n)],
                                      AD.v (Value.int IntKind.i64 e)]) ∧
                              True ∧
                                ((!decide ((stepF { s := (1 : Int), p := g.snd, n := (0 : Int) : Wt } (3 : Int)).snd.snd = (0 : Int))) = false →
                                    True ∧
                                      ((!decide ((stepF { s := (1 : Int), p := g.snd, n := (0 : Int) : Wt } (3 : Int)).fst.s = (1 : Int))) = false →
                                          ((stepF { s := (1 : Int), p := g.snd, n := (0 : Int) : Wt } (3 : Int)).fst.p = false →
                                              ((stepF { s := (1 : Int), p := g.snd, n := (0 : Int) : Wt } (3 : Int)).snd.fst.fail = true →
                                                  (false = true ∧ True) ∧ True) ∧
                                                ((stepF { s := (1 : Int), p := g.snd, n := (0 : Int) : Wt } (3 : Int)).snd.fst.fail = false →
                                                  ((0 : Int) ≤ g.fst ∧ g.fst < ↑xs.length) ∧
                                                    (2 : Int) ≠ (0 : Int) ∧
                                                      True ∧
                                                        (decide ((xs.getD g.fst.toNat (0 : Int)).tmod (2 : Int) = (0 : Int)) = true →
                                                            (∃ (w : Wt),
                                                                ∃ (e : Int),
                                                                  [AD.agg
                                                                        [D.v
                                                                            (Value.int IntKind.i64
                                                                              (stepF { s := (1 : Int), p := g.snd, n := (0 : Int) : Wt } (3 : Int)).fst.s),
                                                                          D.v
                                                                            (Value.bool
                                                                              (stepF { s := (1 : Int), p := g.snd, n := (0 : Int) : Wt } (3 : Int)).fst.p),
                                                                          D.v
                                                                            (Value.int IntKind.i64
                                                                              (stepF { s := (1 : Int), p := g.snd, n := (0 : Int) : Wt } (3 : Int)).fst.n)],
                                                                      AD.v (Value.int IntKind.i64 (5 : Int))] =
                                                                    [AD.agg
                                                                        [D.v (Value.int IntKind.i64 w.s), D.v (Value.bool w.p),
                                                                          D.v (Value.int IntKind.i64 w.n)],
                                                                      AD.v (Value.int IntKind.i64 e)]) ∧
                                                              True ∧
                                                                ((!decide
                                                                          ((stepF
                                                                                  {
                                                                                    s :=
                                                                                      (stepF { s := (1 : Int), p := g.snd, n := (0 : Int) : Wt }
                                                                                            (3 : Int)).fst.s,
                                                                                    p :=
                                                                                      (stepF { s := (1 : Int), p := g.snd, n := (0 : Int) : Wt }
                                                                                            (3 : Int)).fst.p,
                                                                                    n :=
                                                                                      (stepF { s := (1 : Int), p := g.snd, n := (0 : Int) : Wt }
                                                                                            (3 : Int)).fst.n :
                                                                                    Wt }
                                                                                  (5 : Int)).snd.snd =
                                                                            (0 : Int))) =
                                                                      false →
                                                                    True ∧
                                                                      ((!decide
                                                                                ((stepF
                                                                                        {
                                                                                          s :=
                                                                                            (stepF { s := (1 : Int), p := g.snd, n := (0 : Int) : Wt }
                                                                                                  (3 : Int)).fst.s,
                                                                                          p :=
                                                                                            (stepF { s := (1 : Int), p := g.snd, n := (0 : Int) : Wt }
                                                                                                  (3 : Int)).fst.p,
                                                                                          n :=
                                                                                            (stepF { s := (1 : Int), p := g.snd, n := (0 : Int) : Wt }
                                                                                                  (3 : Int)).fst.n :
                                                                                          Wt }
                                                                                        (5 : Int)).fst.s =
                                                                                  (1 : Int))) =
                                                                            false →
                                                                          ((!(stepF
                                                                                          {
                                                                                            s :=
                                                                                              (stepF { s := (1 : Int), p := g.snd, n := (0 : Int) : Wt }
                                                                                                    (3 : Int)).fst.s,
                                                                                            p :=
                                                                                              (stepF { s := (1 : Int), p := g.snd, n := (0 : Int) : Wt }
                                                                                                    (3 : Int)).fst.p,
                                                                                            n :=
                                                                                              (stepF { s := (1 : Int), p := g.snd, n := (0 : Int) : Wt }
                                                                                                    (3 : Int)).fst.n :
                                                                                            Wt }
                                                                                          (5 : Int)).snd.fst.ask) =
                                                                                false →
                                                                              ((stepF
                                                                                            {
                                                                                              s :=
                                                                                                (stepF { s := (1 : Int), p := g.snd, n := (0 : Int) : Wt }
                                                                                                      (3 : Int)).fst.s,
                                                                                              p :=
                                                                                                (stepF { s := (1 : Int), p := g.snd, n := (0 : Int) : Wt }
                                                                                                      (3 : Int)).fst.p,
                                                                                              n :=
                                                                                                (stepF { s := (1 : Int), p := g.snd, n := (0 : Int) : Wt }
                                                                                                      (3 : Int)).fst.n :
                                                                                              Wt }
                                                                                            (5 : Int)).snd.fst.fail =
                                                                                    true →
                                                                                  (false = true ∧ True) ∧ True) ∧
                                                                                ((stepF
                                                                                            {
                                                                                              s :=
                                                                                                (stepF { s := (1 : Int), p := g.snd, n := (0 : Int) : Wt }
                                                                                                      (3 : Int)).fst.s,
                                                                                              p :=
                                                                                                (stepF { s := (1 : Int), p := g.snd, n := (0 : Int) : Wt }
                                                                                                      (3 : Int)).fst.p,
                                                                                              n :=
                                                                                                (stepF { s := (1 : Int), p := g.snd, n := (0 : Int) : Wt }
                                                                                                      (3 : Int)).fst.n :
                                                                                              Wt }
                                                                                            (5 : Int)).snd.fst.fail =
                                                                                    false →
                                                                                  True ∧
                                                                                    ∃ (g' : Int × Bool),
                                                                                      ((0 : Int) ≤ g'.fst ∧ g'.fst ≤ (200 : Int)) ∧
                                                                                        ((200 : Int) - g'.fst).toNat < ((200 : Int) - g.fst).toNat ∧
                                                                                          (IntKind.i64.wrap (g.fst + (1 : Int)) = g'.fst ∧
                                                                                              (stepF
                                                                                                        {
                                                                                                          s :=
                                                                                                            (stepF
                                                                                                                  { s := (1 : Int), p := g.snd, n := (0 : Int) :
                                                                                                                    Wt }
                                                                                                                  (3 : Int)).fst.s,
                                                                                                          p :=
                                                                                                            (stepF
                                                                                                                  { s := (1 : Int), p := g.snd, n := (0 : Int) :
                                                                                                                    Wt }
                                                                                                                  (3 : Int)).fst.p,
                                                                                                          n :=
                                                                                                            (stepF
                                                                                                                  { s := (1 : Int), p := g.snd, n := (0 : Int) :
                                                                                                                    Wt }
                                                                                                                  (3 : Int)).fst.n :
                                                                                                          Wt }
                                                                                                        (5 : Int)).fst.s =
                                                                                                  (1 : Int) ∧
                                                                                                (stepF
                                                                                                          {
                                                                                                            s :=
                                                                                                              (stepF
                                                                                                                    { s := (1 : Int), p := g.snd,
                                                                                                                      n := (0 : Int) : Wt }
                                                                                                                    (3 : Int)).fst.s,
                                                                                                            p :=
                                                                                                              (stepF
                                                                                                                    { s := (1 : Int), p := g.snd,
                                                                                                                      n := (0 : Int) : Wt }
                                                                                                                    (3 : Int)).fst.p,
                                                                                                            n :=
                                                                                                              (stepF
                                                                                                                    { s := (1 : Int), p := g.snd,
                                                                                                                      n := (0 : Int) : Wt }
                                                                                                                    (3 : Int)).fst.n :
                                                                                                            Wt }
                                                                                                          (5 : Int)).fst.p =
                                                                                                    g'.snd ∧
                                                                                                  (stepF
                                                                                                            {
                                                                                                              s :=
                                                                                                                (stepF
                                                                                                                      { s := (1 : Int), p := g.snd,
                                                                                                                        n := (0 : Int) : Wt }
                                                                                                                      (3 : Int)).fst.s,
                                                                                                              p :=
                                                                                                                (stepF
                                                                                                                      { s := (1 : Int), p := g.snd,
                                                                                                                        n := (0 : Int) : Wt }
                                                                                                                      (3 : Int)).fst.p,
                                                                                                              n :=
                                                                                                                (stepF
                                                                                                                      { s := (1 : Int), p := g.snd,
                                                                                                                        n := (0 : Int) : Wt }
                                                                                                                      (3 : Int)).fst.n :
                                                                                                              Wt }
                                                                                                            (5 : Int)).fst.n =
                                                                                                      (0 : Int) ∧
                                                                                                    (true && true) = true) ∧
                                                                                            (some (SV.p (1 : Nat) (0 : Nat)) = some (SV.p (1 : Nat) (0 : Nat)) ∧
                                                                                                some
                                                                                                      (SV.agg
                                                                                                        [SV.c (Value.int IntKind.i64 (1 : Int)), SV.b false,
                                                                                                          SV.c (Value.int IntKind.i64 (0 : Int))]) =
                                                                                                    some
                                                                                                      (SV.agg
                                                                                                        [SV.c (Value.int IntKind.i64 (1 : Int)), SV.b false,
                                                                                                          SV.c (Value.int IntKind.i64 (0 : Int))]) ∧
                                                                                                  some (SV.a (0 : Nat)) = some (SV.a (0 : Nat)) ∧ True) ∧
                                                                                              some (R.ro (D.ints IntKind.u8 xs)) =
                                                                                                  some (R.ro (D.ints IntKind.u8 xs)) ∧
                                                                                                True)) ∧
                                                                            ((!(stepF
                                                                                          {
                                                                                            s :=
                                                                                              (stepF { s := (1 : Int), p := g.snd, n := (0 : Int) : Wt }
                                                                                                    (3 : Int)).fst.s,
                                                                                            p :=
                                                                                              (stepF { s := (1 : Int), p := g.snd, n := (0 : Int) : Wt }
                                                                                                    (3 : Int)).fst.p,
                                                                                            n :=
                                                                                              (stepF { s := (1 : Int), p := g.snd, n := (0 : Int) : Wt }
                                                                                                    (3 : Int)).fst.n :
                                                                                            Wt }
                                                                                          (5 : Int)).snd.fst.ask) =
                                                                                !false →
                                                                              (false = true ∧ True) ∧ True)) ∧
                                                                        ((!decide
                                                                                ((stepF
                                                                                        {
                                                                                          s :=
                                                                                            (stepF { s := (1 : Int), p := g.snd, n := (0 : Int) : Wt }
                                                                                                  (3 : Int)).fst.s,
                                                                                          p :=
                                                                                            (stepF { s := (1 : Int), p := g.snd, n := (0 : Int) : Wt }
                                                                                                  (3 : Int)).fst.p,
                                                                                          n :=
                                                                                            (stepF { s := (1 : Int), p := g.snd, n := (0 : Int) : Wt }
                                                                                                  (3 : Int)).fst.n :
                                                                                          Wt }
                                                                                        (5 : Int)).fst.s =
                                                                                  (1 : Int))) =
                                                                            !false →
                                                                          (false = true ∧ True) ∧ True)) ∧
                                                                  ((!decide
                                                                          ((stepF
                                                                                  {
                                                                                    s :=
                                                                                      (stepF { s := (1 : Int), p := g.snd, n := (0 : Int) : Wt }
                                                                                            (3 : Int)).fst.s,
                                                                                    p :=
                                                                                      (stepF { s := (1 : Int), p := g.snd, n := (0 : Int) : Wt }
                                                                                            (3 : Int)).fst.p,
                                                                                    n :=
                                                                                      (stepF { s := (1 : Int), p := g.snd, n := (0 : Int) : Wt }
                                                                                            (3 : Int)).fst.n :
                                                                                    Wt }
                                                                                  (5 : Int)).snd.snd =
                                                                            (0 : Int))) =
                                                                      !false →
                                                                    (false = true ∧ True) ∧ True)) ∧
                                                          (decide ((xs.getD g.fst.toNat (0 : Int)).tmod (2 : Int) = (0 : Int)) = false →
                                                            True ∧
                                                              ∃ (g' : Int × Bool),
                                                                ((0 : Int) ≤ g'.fst ∧ g'.fst ≤ (200 : Int)) ∧
                                                                  ((200 : Int) - g'.fst).toNat < ((200 : Int) - g.fst).toNat ∧
                                                                    (IntKind.i64.wrap (g.fst + (1 : Int)) = g'.fst ∧
                                                                        (stepF { s := (1 : Int), p := g.snd, n := (0 : Int) : Wt } (3 : Int)).fst.s =
                                                                            (1 : Int) ∧
                                                                          (stepF { s := (1 : Int), p := g.snd, n := (0 : Int) : Wt } (3 : Int)).fst.p = g'.snd ∧
                                                                            (stepF { s := (1 : Int), p := g.snd, n := (0 : Int) : Wt } (3 : Int)).fst.n =
                                                                                (0 : Int) ∧
                                                                              (true && true) = true) ∧
                                                                      (some (SV.p (1 : Nat) (0 : Nat)) = some (SV.p (1 : Nat) (0 : Nat)) ∧
                                                                          some
                                                                                (SV.agg
                                                                                  [SV.c (Value.int IntKind.i64 (1 : Int)), SV.b false,
                                                                                    SV.c (Value.int IntKind.i64 (0 : Int))]) =
                                                                              some
                                                                                (SV.agg
                                                                                  [SV.c (Value.int IntKind.i64 (1 : Int)), SV.b false,
                                                                                    SV.c (Value.int IntKind.i64 (0 : Int))]) ∧
                                                                            some (SV.a (0 : Nat)) = some (SV.a (0 : Nat)) ∧ True) ∧
                                                                        some (R.ro (D.ints IntKind.u8 xs)) = some (R.ro (D.ints IntKind.u8 xs)) ∧ True))) ∧
                                            ((stepF { s := (1 : Int), p := g.snd, n := (0 : Int) : Wt } (3 : Int)).fst.p = !false →
                                              (false = true ∧ True) ∧ True)) ∧
                                        ((!decide ((stepF { s := (1 : Int), p := g.snd, n := (0 : Int) : Wt } (3 : Int)).fst.s = (1 : Int))) = !false →
                                          (false = true ∧ True) ∧ True)) ∧
                                  ((!decide ((stepF { s := (1 : Int), p := g.snd, n := (0 : Int) : Wt } (3 : Int)).snd.snd = (0 : Int))) = !false →
                                    (false = true ∧ True) ∧ True)) ∧
                          (decide (g.fst < (200 : Int)) = false →
                            (∃ (w : Wt),
                                ∃ (e : Int),
                                  [AD.agg [D.v (Value.int IntKind.i64 (5 : Int)), D.v (Value.bool false), D.v (Value.int IntKind.i64 (0 : Int))],
                                      AD.v (Value.int IntKind.i64 (1 : Int))] =
                                    [AD.agg [D.v (Value.int IntKind.i64 w.s), D.v (Value.bool w.p), D.v (Value.int IntKind.i64 w.n)],
                                      AD.v (Value.int IntKind.i64 e)]) ∧
                              ([] : List AD) = [] ∧
                                (true = true →
                                    True ∧
                                      (decide ((stepF { s := (5 : Int), p := false, n := (0 : Int) : Wt } (1 : Int)).snd.snd = (1 : Int)) = true ∧ True) ∧
                                        True) ∧
                                  (true = !true → (false = true ∧ True) ∧ True))) ∧
                    (decide (g.fst < ↑xs.length) = !true →
                      (∃ (w : Wt),
                          ∃ (e : Int),
                            [AD.agg [D.v (Value.int IntKind.i64 (5 : Int)), D.v (Value.bool false), D.v (Value.int IntKind.i64 (0 : Int))],
                                AD.v (Value.int IntKind.i64 (1 : Int))] =
                              [AD.agg [D.v (Value.int IntKind.i64 w.s), D.v (Value.bool w.p), D.v (Value.int IntKind.i64 w.n)],
                                AD.v (Value.int IntKind.i64 e)]) ∧
                        ([] : List AD) = [] ∧
                          (true = true →
                              True ∧
                                (decide ((stepF { s := (5 : Int), p := false, n := (0 : Int) : Wt } (1 : Int)).snd.snd = (1 : Int)) = true ∧ True) ∧ True) ∧
                            (true = !true → (false = true ∧ True) ∧ True)) := by
  intro xs hx hl
  refine ⟨(0, false), by simp, by simp, ?_⟩
  rintro ⟨i, p⟩ ⟨h1, h2⟩
  simp only at h1 h2
  have a1 : stepF ⟨1, p, 0⟩ 3 = (⟨1, false, 0⟩, ⟨false, false, false, false, false, true⟩, 0) := by cases p <;> simp [stepF, heardF]
  have a2 : stepF ⟨1, false, 0⟩ 5 = (⟨1, true, 0⟩, ⟨true, false, false, false, false, true⟩, 0) := by simp [stepF, alarmF]
  have a3 : (stepF ⟨5, false, 0⟩ 1).2.2 = 1 := by simp [stepF]
  have ex : ∀ s p n, ∃ w : Wt, s = w.s ∧ p = w.p ∧ n = w.n := fun s p n => ⟨⟨s, p, n⟩, rfl, rfl, rfl⟩
  simp only [a1, a2, a3]
  simp [ex]
  have hw : i < 200 → IntKind.i64.wrap (i + 1) = i + 1 := fun h => IntWalk.i64_in _ (by omega)
  have e1 : ∃ w : Wt, (1 : Int) = w.s ∧ w.p = false ∧ (0 : Int) = w.n := ⟨⟨1, false, 0⟩, rfl, rfl, rfl⟩
  have e5 : ∃ w : Wt, (5 : Int) = w.s ∧ w.p = false ∧ (0 : Int) = w.n := ⟨⟨5, false, 0⟩, rfl, rfl, rfl⟩
  refine ⟨fun ha => ⟨fun hb => ?_, fun _ => e5⟩, fun _ => e5⟩
  rw [hw hb]
  exact ⟨⟨h1, ha⟩, fun _ => ⟨e1, by omega, by omega⟩, fun _ => ⟨by omega, by omega⟩⟩
theorem ok10 : FnIs Try.prog 10 bytesC := by
  refine fnIs (C := ctrs c5) (by kernel_rfl) c5_ok Try.func10 (code := code10) (by kernel_rfl) (by kernel_rfl) ?_
  rintro a ⟨xs, rfl, hx, hl⟩
  exact ⟨anns [(3, asksAnn)], kcast (vc10 xs hx hl) (by kernel_rfl)⟩

end Go.XR
