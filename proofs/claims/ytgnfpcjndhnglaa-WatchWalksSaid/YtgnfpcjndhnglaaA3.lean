/- WatchWalks, run. -/
import Derived.Test.YtgnfpcjndhnglaaRows
import Derived.Test.YtgnfpcjndhnglaaA0
import Derived.Test.YtgnfpcjndhnglaaA1
import Derived.Test.YtgnfpcjndhnglaaA2
namespace Go.YR
open Go.Proofs
open Go.Y Go.YM Go.RowKit
theorem c5_ok : COk Try.prog (ctrs c5) := cok_cons ok19 (cok_cons ok21 cok_nil)

theorem stepF_ok (w : Wt) (e : Int) (hw : 0 ≤ w.s ∧ w.s ≤ 4 ∧ -1 ≤ w.n ∧ w.n ≤ 3) (he : 1 ≤ e ∧ e ≤ 5) : (stepF w e).2.2 = 0 ∧ (0 ≤ (stepF w e).1.s ∧ (stepF w e).1.s ≤ 4 ∧ -1 ≤ (stepF w e).1.n ∧ (stepF w e).1.n ≤ 3) ∧
    ((stepF w e).2.1.back = true → (stepF w e).1.s = 1) ∧ ((stepF w e).2.1.fail = true → (stepF w e).1.s ≠ 1 ∧ w.s = 1) ∧ ((stepF w e).1.s = 1 → w.s ≠ 1 → (stepF w e).2.1.back = true ∨ w.s = 0) := by
  obtain ⟨s, p, n⟩ := w
  simp only at hw
  have hr : ¬ (s < 0 ∨ s > 4 ∨ n < -1 ∨ n > 3 ∨ e < 1 ∨ e > 5) := by omega
  simp only [stepF, if_neg hr]
  have hs : s = 0 ∨ s = 1 ∨ s = 2 ∨ s = 3 ∨ s = 4 := by omega
  have hn : n = -1 ∨ n = 0 ∨ n = 1 ∨ n = 2 ∨ n = 3 := by omega
  have h5 : e = 1 ∨ e = 2 ∨ e = 3 ∨ e = 4 ∨ e = 5 := by omega
  clear hr hw he
  rcases h5 with rfl | rfl | rfl | rfl | rfl <;> rcases hs with rfl | rfl | rfl | rfl | rfl <;> cases p <;> rcases hn with rfl | rfl | rfl | rfl | rfl <;>
    simp [openedF, brokenF, heardF, alarmF, goneF, noDo]

theorem alarm_left (w : Wt) (hw : 0 ≤ w.s ∧ w.s ≤ 4 ∧ -1 ≤ w.n ∧ w.n ≤ 3) (h3 : w.s ≠ 3) (h0 : w.s ≠ 0) : leftF (stepF w 5).1 + 1 ≤ leftF w := by
  obtain ⟨s, p, n⟩ := w
  simp only at hw h3 h0
  have hr : ¬ (s < 0 ∨ s > 4 ∨ n < -1 ∨ n > 3 ∨ (5 : Int) < 1 ∨ (5 : Int) > 5) := by omega
  simp only [stepF, if_neg hr]
  have hs : s = 1 ∨ s = 2 ∨ s = 4 := by omega
  have hn : n = -1 ∨ n = 0 ∨ n = 1 ∨ n = 2 ∨ n = 3 := by omega
  clear hr hw
  rcases hs with rfl | rfl | rfl <;> cases p <;> rcases hn with rfl | rfl | rfl | rfl | rfl <;> simp [alarmF, goneF, leftF]
theorem left_pos (w : Wt) : 0 ≤ leftF w ∧ (w.s ≠ 3 → w.s ≠ 0 → 1 ≤ leftF w) ∧ leftF w ≤ 3 := by
  obtain ⟨s, p, n⟩ := w
  simp only [leftF]
  refine ⟨?_, fun h3 h0 => ?_, ?_⟩
  all_goals (repeat' split) <;> first | omega | (exfalso; simp_all)
theorem getD_all {xs : List Int} {p : Int → Prop} (h : ∀ x, x ∈ xs → p x) {i : Nat} (hi : i < xs.length) : p (xs.getD i 0) := by
  have : xs.getD i 0 = xs[i] := by simp [List.getD, List.getElem?_eq_getElem hi]
  rw [this]; exact h _ (List.getElem_mem hi)
noncomputable def code8 : Code := match Try.f8.body with | some c => c | none => .skip
theorem vc8 : ∀ (xs : List Int), (∀ (x : Int), x ∈ xs → (0 : Int) ≤ x ∧ x ≤ (255 : Int)) → xs.length ≤ (9223372036854775807 : Nat) → ∃ (g0 : Int × Bool × Wt), ((0 : Int) ≤ g0.fst ∧
  g0.fst ≤ (300 : Int) ∧ ((0 : Int) ≤ g0.snd.snd.s ∧ g0.snd.snd.s ≤ (4 : Int) ∧ (-1 : Int) ≤ g0.snd.snd.n ∧ g0.snd.snd.n ≤ (3 : Int)) ∧ (g0.snd.fst = true →
  g0.snd.snd.s ≠ (1 : Int))) ∧ (0 : Int) = g0.fst ∧ false = g0.snd.fst ∧ (0 : Int) = g0.snd.snd.s ∧ false = g0.snd.snd.p ∧ (0 : Int) = g0.snd.snd.n ∧ (!false && true && true) = true ∧
  ∀ (g : Int × Bool × Wt), let y := stepF (Wt.mk g.snd.snd.s g.snd.snd.p g.snd.snd.n) (IntKind.i64.wrap (IntKind.i64.wrap ((xs.getD g.fst.toNat (0 : Int)).tmod (5 : Int)) + (1 : Int)));
  (0 : Int) ≤ g.fst ∧ g.fst ≤ (300 : Int) ∧ ((0 : Int) ≤ g.snd.snd.s ∧ g.snd.snd.s ≤ (4 : Int) ∧ (-1 : Int) ≤ g.snd.snd.n ∧ g.snd.snd.n ≤ (3 : Int)) ∧ (g.snd.fst = true →
  g.snd.snd.s ≠ (1 : Int)) → True ∧ (allT [decide (g.fst < ↑xs.length)] → SV.c (Value.int IntKind.i64 g.fst) = SV.c (Value.int IntKind.i64 g.fst)) ∧ (allT [decide (g.fst < ↑xs.length)] →
  [decide (g.fst < ↑xs.length)] = [decide (g.fst < ↑xs.length)] ∧ True ∧ SV.c (Value.bool (decide (g.fst < (300 : Int)))) = SV.c (Value.bool (decide (g.fst < (300 : Int))))) ∧
  [decide (g.fst < ↑xs.length)] = [decide (g.fst < ↑xs.length)] ∧ ((decide (g.fst < ↑xs.length) && decide (g.fst < (300 : Int))) = true → ((0 : Int) ≤ g.fst ∧
  g.fst < ↑xs.length) ∧ (5 : Int) ≠ (0 : Int) ∧ True ∧ (∃ (w : Wt), ∃ (e : Int), [O.agg [O.d (D.v (Value.int IntKind.i64 g.snd.snd.s)), O.d (D.v (Value.bool g.snd.snd.p)), O.d (D.v (Value.int IntKind.i64 g.snd.snd.n))], O.d (D.v (Value.int IntKind.i64 (IntKind.i64.wrap (IntKind.i64.wrap ((xs.getD g.fst.toNat (0 : Int)).tmod (5 : Int)) + (1 : Int)))))] = [O.agg [O.d (D.v (Value.int IntKind.i64 w.s)), O.d (D.v (Value.bool w.p)), O.d (D.v (Value.int IntKind.i64 w.n))], O.d (D.v (Value.int IntKind.i64 e))]) ∧
  True ∧ (allT [!!decide (y.snd.snd = (0 : Int))] → SV.p (2 : Nat) (0 : Nat) = SV.p (2 : Nat) (0 : Nat)) ∧ (allT [!!decide (y.snd.snd = (0 : Int))] → [!!decide (y.snd.snd = (0 : Int))] = [!!decide (y.snd.snd = (0 : Int))] ∧
  SV.c (Value.int IntKind.i64 y.fst.s) = SV.c (Value.int IntKind.i64 y.fst.s)) ∧ (allT [!!decide (y.snd.snd = (0 : Int))] → [!!decide (y.snd.snd = (0 : Int))] = [!!decide (y.snd.snd = (0 : Int))] ∧
  True ∧ SV.c (Value.bool (decide (y.fst.s < (0 : Int)))) = SV.c (Value.bool (decide (y.fst.s < (0 : Int))))) ∧ [!!decide (y.snd.snd = (0 : Int))] = [!!decide (y.snd.snd = (0 : Int))] ∧
  (allT [!(!decide (y.snd.snd = (0 : Int)) || decide (y.fst.s < (0 : Int)))] → SV.p (2 : Nat) (0 : Nat) = SV.p (2 : Nat) (0 : Nat)) ∧ (allT [!(!decide (y.snd.snd = (0 : Int)) || decide (y.fst.s < (0 : Int)))] →
  [!(!decide (y.snd.snd = (0 : Int)) || decide (y.fst.s < (0 : Int)))] = [!(!decide (y.snd.snd = (0 : Int)) || decide (y.fst.s < (0 : Int)))] ∧ SV.c (Value.int IntKind.i64 y.fst.s) = SV.c (Value.int IntKind.i64 y.fst.s)) ∧
  (allT [!(!decide (y.snd.snd = (0 : Int)) || decide (y.fst.s < (0 : Int)))] → [!(!decide (y.snd.snd = (0 : Int)) || decide (y.fst.s < (0 : Int)))] = [!(!decide (y.snd.snd = (0 : Int)) || decide (y.fst.s < (0 : Int)))] ∧
  True ∧ SV.c (Value.bool (decide ((4 : Int) < y.fst.s))) = SV.c (Value.bool (decide ((4 : Int) < y.fst.s)))) ∧ [!(!decide (y.snd.snd = (0 : Int)) || decide (y.fst.s < (0 : Int)))] = [!(!decide (y.snd.snd = (0 : Int)) || decide (y.fst.s < (0 : Int)))] ∧
  (allT [!(!decide (y.snd.snd = (0 : Int)) || decide (y.fst.s < (0 : Int)) || decide ((4 : Int) < y.fst.s))] → SV.p (2 : Nat) (2 : Nat) = SV.p (2 : Nat) (2 : Nat)) ∧
  (allT [!(!decide (y.snd.snd = (0 : Int)) || decide (y.fst.s < (0 : Int)) || decide ((4 : Int) < y.fst.s))] → [!(!decide (y.snd.snd = (0 : Int)) || decide (y.fst.s < (0 : Int)) || decide ((4 : Int) < y.fst.s))] = [!(!decide (y.snd.snd = (0 : Int)) || decide (y.fst.s < (0 : Int)) || decide ((4 : Int) < y.fst.s))] ∧
  SV.c (Value.int IntKind.i64 y.fst.n) = SV.c (Value.int IntKind.i64 y.fst.n)) ∧ (allT [!(!decide (y.snd.snd = (0 : Int)) || decide (y.fst.s < (0 : Int)) || decide ((4 : Int) < y.fst.s))] →
  [!(!decide (y.snd.snd = (0 : Int)) || decide (y.fst.s < (0 : Int)) || decide ((4 : Int) < y.fst.s))] = [!(!decide (y.snd.snd = (0 : Int)) || decide (y.fst.s < (0 : Int)) || decide ((4 : Int) < y.fst.s))] ∧
  True ∧ SV.c (Value.bool (decide (y.fst.n < (-1 : Int)))) = SV.c (Value.bool (decide (y.fst.n < (-1 : Int))))) ∧ [!(!decide (y.snd.snd = (0 : Int)) || decide (y.fst.s < (0 : Int)) || decide ((4 : Int) < y.fst.s))] = [!(!decide (y.snd.snd = (0 : Int)) || decide (y.fst.s < (0 : Int)) || decide ((4 : Int) < y.fst.s))] ∧
  (allT [!(!decide (y.snd.snd = (0 : Int)) || decide (y.fst.s < (0 : Int)) || decide ((4 : Int) < y.fst.s) || decide (y.fst.n < (-1 : Int)))] → SV.p (2 : Nat) (2 : Nat) = SV.p (2 : Nat) (2 : Nat)) ∧
  (allT [!(!decide (y.snd.snd = (0 : Int)) || decide (y.fst.s < (0 : Int)) || decide ((4 : Int) < y.fst.s) || decide (y.fst.n < (-1 : Int)))] → [!(!decide (y.snd.snd = (0 : Int)) || decide (y.fst.s < (0 : Int)) || decide ((4 : Int) < y.fst.s) || decide (y.fst.n < (-1 : Int)))] = [!(!decide (y.snd.snd = (0 : Int)) || decide (y.fst.s < (0 : Int)) || decide ((4 : Int) < y.fst.s) || decide (y.fst.n < (-1 : Int)))] ∧
  SV.c (Value.int IntKind.i64 y.fst.n) = SV.c (Value.int IntKind.i64 y.fst.n)) ∧ (allT [!(!decide (y.snd.snd = (0 : Int)) || decide (y.fst.s < (0 : Int)) || decide ((4 : Int) < y.fst.s) || decide (y.fst.n < (-1 : Int)))] →
  [!(!decide (y.snd.snd = (0 : Int)) || decide (y.fst.s < (0 : Int)) || decide ((4 : Int) < y.fst.s) || decide (y.fst.n < (-1 : Int)))] = [!(!decide (y.snd.snd = (0 : Int)) || decide (y.fst.s < (0 : Int)) || decide ((4 : Int) < y.fst.s) || decide (y.fst.n < (-1 : Int)))] ∧
  True ∧ SV.c (Value.bool (decide ((3 : Int) < y.fst.n))) = SV.c (Value.bool (decide ((3 : Int) < y.fst.n)))) ∧ [!(!decide (y.snd.snd = (0 : Int)) || decide (y.fst.s < (0 : Int)) || decide ((4 : Int) < y.fst.s) || decide (y.fst.n < (-1 : Int)))] = [!(!decide (y.snd.snd = (0 : Int)) || decide (y.fst.s < (0 : Int)) || decide ((4 : Int) < y.fst.s) || decide (y.fst.n < (-1 : Int)))] ∧
  (allT [!(!decide (y.snd.snd = (0 : Int)) || decide (y.fst.s < (0 : Int)) || decide ((4 : Int) < y.fst.s) || decide (y.fst.n < (-1 : Int)) || decide ((3 : Int) < y.fst.n))] →
  SV.p (3 : Nat) (2 : Nat) = SV.p (3 : Nat) (2 : Nat)) ∧ (allT [!(!decide (y.snd.snd = (0 : Int)) || decide (y.fst.s < (0 : Int)) || decide ((4 : Int) < y.fst.s) || decide (y.fst.n < (-1 : Int)) || decide ((3 : Int) < y.fst.n))] →
  [!(!decide (y.snd.snd = (0 : Int)) || decide (y.fst.s < (0 : Int)) || decide ((4 : Int) < y.fst.s) || decide (y.fst.n < (-1 : Int)) || decide ((3 : Int) < y.fst.n))] = [!(!decide (y.snd.snd = (0 : Int)) || decide (y.fst.s < (0 : Int)) || decide ((4 : Int) < y.fst.s) || decide (y.fst.n < (-1 : Int)) || decide ((3 : Int) < y.fst.n))] ∧
  SV.c (Value.bool y.snd.fst.back) = SV.c (Value.bool y.snd.fst.back)) ∧ (allT [!(!decide (y.snd.snd = (0 : Int)) || decide (y.fst.s < (0 : Int)) || decide ((4 : Int) < y.fst.s) || decide (y.fst.n < (-1 : Int)) || decide ((3 : Int) < y.fst.n))] →
  [!(!decide (y.snd.snd = (0 : Int)) || decide (y.fst.s < (0 : Int)) || decide ((4 : Int) < y.fst.s) || decide (y.fst.n < (-1 : Int)) || decide ((3 : Int) < y.fst.n))] = [!(!decide (y.snd.snd = (0 : Int)) || decide (y.fst.s < (0 : Int)) || decide ((4 : Int) < y.fst.s) || decide (y.fst.n < (-1 : Int)) || decide ((3 : Int) < y.fst.n))] ∧
  SV.c (Value.bool y.snd.fst.back) = SV.c (Value.bool y.snd.fst.back)) ∧ (allT [y.snd.fst.back, !(!decide (y.snd.snd = (0 : Int)) || decide (y.fst.s < (0 : Int)) || decide ((4 : Int) < y.fst.s) || decide (y.fst.n < (-1 : Int)) || decide ((3 : Int) < y.fst.n))] →
  SV.p (2 : Nat) (0 : Nat) = SV.p (2 : Nat) (0 : Nat)) ∧ (allT [y.snd.fst.back, !(!decide (y.snd.snd = (0 : Int)) || decide (y.fst.s < (0 : Int)) || decide ((4 : Int) < y.fst.s) || decide (y.fst.n < (-1 : Int)) || decide ((3 : Int) < y.fst.n))] →
  [y.snd.fst.back, !(!decide (y.snd.snd = (0 : Int)) || decide (y.fst.s < (0 : Int)) || decide ((4 : Int) < y.fst.s) || decide (y.fst.n < (-1 : Int)) || decide ((3 : Int) < y.fst.n))] = [y.snd.fst.back, !(!decide (y.snd.snd = (0 : Int)) || decide (y.fst.s < (0 : Int)) || decide ((4 : Int) < y.fst.s) || decide (y.fst.n < (-1 : Int)) || decide ((3 : Int) < y.fst.n))] ∧
  SV.c (Value.int IntKind.i64 y.fst.s) = SV.c (Value.int IntKind.i64 y.fst.s)) ∧ (allT [y.snd.fst.back, !(!decide (y.snd.snd = (0 : Int)) || decide (y.fst.s < (0 : Int)) || decide ((4 : Int) < y.fst.s) || decide (y.fst.n < (-1 : Int)) || decide ((3 : Int) < y.fst.n))] →
  [y.snd.fst.back, !(!decide (y.snd.snd = (0 : Int)) || decide (y.fst.s < (0 : Int)) || decide ((4 : Int) < y.fst.s) || decide (y.fst.n < (-1 : Int)) || decide ((3 : Int) < y.fst.n))] = [y.snd.fst.back, !(!decide (y.snd.snd = (0 : Int)) || decide (y.fst.s < (0 : Int)) || decide ((4 : Int) < y.fst.s) || decide (y.fst.n < (-1 : Int)) || decide ((3 : Int) < y.fst.n))] ∧
  True ∧ SV.c (Value.bool !decide (y.fst.s = (1 : Int))) = SV.c (Value.bool !decide (y.fst.s = (1 : Int)))) ∧ (allT [!(!decide (y.snd.snd = (0 : Int)) || decide (y.fst.s < (0 : Int)) || decide ((4 : Int) < y.fst.s) || decide (y.fst.n < (-1 : Int)) || decide ((3 : Int) < y.fst.n))] →
  [!(!decide (y.snd.snd = (0 : Int)) || decide (y.fst.s < (0 : Int)) || decide ((4 : Int) < y.fst.s) || decide (y.fst.n < (-1 : Int)) || decide ((3 : Int) < y.fst.n))] = [!(!decide (y.snd.snd = (0 : Int)) || decide (y.fst.s < (0 : Int)) || decide ((4 : Int) < y.fst.s) || decide (y.fst.n < (-1 : Int)) || decide ((3 : Int) < y.fst.n))] ∧
  [y.snd.fst.back, !(!decide (y.snd.snd = (0 : Int)) || decide (y.fst.s < (0 : Int)) || decide ((4 : Int) < y.fst.s) || decide (y.fst.n < (-1 : Int)) || decide ((3 : Int) < y.fst.n))] = [y.snd.fst.back, !(!decide (y.snd.snd = (0 : Int)) || decide (y.fst.s < (0 : Int)) || decide ((4 : Int) < y.fst.s) || decide (y.fst.n < (-1 : Int)) || decide ((3 : Int) < y.fst.n))] ∧
  SV.c (Value.bool (y.snd.fst.back && !decide (y.fst.s = (1 : Int)))) = SV.c (Value.bool (y.snd.fst.back && !decide (y.fst.s = (1 : Int))))) ∧ [!(!decide (y.snd.snd = (0 : Int)) || decide (y.fst.s < (0 : Int)) || decide ((4 : Int) < y.fst.s) || decide (y.fst.n < (-1 : Int)) || decide ((3 : Int) < y.fst.n))] = [!(!decide (y.snd.snd = (0 : Int)) || decide (y.fst.s < (0 : Int)) || decide ((4 : Int) < y.fst.s) || decide (y.fst.n < (-1 : Int)) || decide ((3 : Int) < y.fst.n))] ∧
  (allT [!(!decide (y.snd.snd = (0 : Int)) || decide (y.fst.s < (0 : Int)) || decide ((4 : Int) < y.fst.s) || decide (y.fst.n < (-1 : Int)) || decide ((3 : Int) < y.fst.n) || y.snd.fst.back && !decide (y.fst.s = (1 : Int)))] →
  SV.p (3 : Nat) (1 : Nat) = SV.p (3 : Nat) (1 : Nat)) ∧ (allT [!(!decide (y.snd.snd = (0 : Int)) || decide (y.fst.s < (0 : Int)) || decide ((4 : Int) < y.fst.s) || decide (y.fst.n < (-1 : Int)) || decide ((3 : Int) < y.fst.n) || y.snd.fst.back && !decide (y.fst.s = (1 : Int)))] →
  [!(!decide (y.snd.snd = (0 : Int)) || decide (y.fst.s < (0 : Int)) || decide ((4 : Int) < y.fst.s) || decide (y.fst.n < (-1 : Int)) || decide ((3 : Int) < y.fst.n) || y.snd.fst.back && !decide (y.fst.s = (1 : Int)))] = [!(!decide (y.snd.snd = (0 : Int)) || decide (y.fst.s < (0 : Int)) || decide ((4 : Int) < y.fst.s) || decide (y.fst.n < (-1 : Int)) || decide ((3 : Int) < y.fst.n) || y.snd.fst.back && !decide (y.fst.s = (1 : Int)))] ∧
  SV.c (Value.bool y.snd.fst.fail) = SV.c (Value.bool y.snd.fst.fail)) ∧ (allT [!(!decide (y.snd.snd = (0 : Int)) || decide (y.fst.s < (0 : Int)) || decide ((4 : Int) < y.fst.s) || decide (y.fst.n < (-1 : Int)) || decide ((3 : Int) < y.fst.n) || y.snd.fst.back && !decide (y.fst.s = (1 : Int)))] →
  [!(!decide (y.snd.snd = (0 : Int)) || decide (y.fst.s < (0 : Int)) || decide ((4 : Int) < y.fst.s) || decide (y.fst.n < (-1 : Int)) || decide ((3 : Int) < y.fst.n) || y.snd.fst.back && !decide (y.fst.s = (1 : Int)))] = [!(!decide (y.snd.snd = (0 : Int)) || decide (y.fst.s < (0 : Int)) || decide ((4 : Int) < y.fst.s) || decide (y.fst.n < (-1 : Int)) || decide ((3 : Int) < y.fst.n) || y.snd.fst.back && !decide (y.fst.s = (1 : Int)))] ∧
  SV.c (Value.bool y.snd.fst.fail) = SV.c (Value.bool y.snd.fst.fail)) ∧ (allT [y.snd.fst.fail, !(!decide (y.snd.snd = (0 : Int)) || decide (y.fst.s < (0 : Int)) || decide ((4 : Int) < y.fst.s) || decide (y.fst.n < (-1 : Int)) || decide ((3 : Int) < y.fst.n) || y.snd.fst.back && !decide (y.fst.s = (1 : Int)))] →
  SV.p (2 : Nat) (0 : Nat) = SV.p (2 : Nat) (0 : Nat)) ∧ (allT [y.snd.fst.fail, !(!decide (y.snd.snd = (0 : Int)) || decide (y.fst.s < (0 : Int)) || decide ((4 : Int) < y.fst.s) || decide (y.fst.n < (-1 : Int)) || decide ((3 : Int) < y.fst.n) || y.snd.fst.back && !decide (y.fst.s = (1 : Int)))] →
  [y.snd.fst.fail, !(!decide (y.snd.snd = (0 : Int)) || decide (y.fst.s < (0 : Int)) || decide ((4 : Int) < y.fst.s) || decide (y.fst.n < (-1 : Int)) || decide ((3 : Int) < y.fst.n) || y.snd.fst.back && !decide (y.fst.s = (1 : Int)))] = [y.snd.fst.fail, !(!decide (y.snd.snd = (0 : Int)) || decide (y.fst.s < (0 : Int)) || decide ((4 : Int) < y.fst.s) || decide (y.fst.n < (-1 : Int)) || decide ((3 : Int) < y.fst.n) || y.snd.fst.back && !decide (y.fst.s = (1 : Int)))] ∧
  SV.c (Value.int IntKind.i64 y.fst.s) = SV.c (Value.int IntKind.i64 y.fst.s)) ∧ (allT [y.snd.fst.fail, !(!decide (y.snd.snd = (0 : Int)) || decide (y.fst.s < (0 : Int)) || decide ((4 : Int) < y.fst.s) || decide (y.fst.n < (-1 : Int)) || decide ((3 : Int) < y.fst.n) || y.snd.fst.back && !decide (y.fst.s = (1 : Int)))] →
  [y.snd.fst.fail, !(!decide (y.snd.snd = (0 : Int)) || decide (y.fst.s < (0 : Int)) || decide ((4 : Int) < y.fst.s) || decide (y.fst.n < (-1 : Int)) || decide ((3 : Int) < y.fst.n) || y.snd.fst.back && !decide (y.fst.s = (1 : Int)))] = [y.snd.fst.fail, !(!decide (y.snd.snd = (0 : Int)) || decide (y.fst.s < (0 : Int)) || decide ((4 : Int) < y.fst.s) || decide (y.fst.n < (-1 : Int)) || decide ((3 : Int) < y.fst.n) || y.snd.fst.back && !decide (y.fst.s = (1 : Int)))] ∧
  True ∧ SV.c (Value.bool (decide (y.fst.s = (1 : Int)))) = SV.c (Value.bool (decide (y.fst.s = (1 : Int))))) ∧ (allT [!(!decide (y.snd.snd = (0 : Int)) || decide (y.fst.s < (0 : Int)) || decide ((4 : Int) < y.fst.s) || decide (y.fst.n < (-1 : Int)) || decide ((3 : Int) < y.fst.n) || y.snd.fst.back && !decide (y.fst.s = (1 : Int)))] →
  [!(!decide (y.snd.snd = (0 : Int)) || decide (y.fst.s < (0 : Int)) || decide ((4 : Int) < y.fst.s) || decide (y.fst.n < (-1 : Int)) || decide ((3 : Int) < y.fst.n) || y.snd.fst.back && !decide (y.fst.s = (1 : Int)))] = [!(!decide (y.snd.snd = (0 : Int)) || decide (y.fst.s < (0 : Int)) || decide ((4 : Int) < y.fst.s) || decide (y.fst.n < (-1 : Int)) || decide ((3 : Int) < y.fst.n) || y.snd.fst.back && !decide (y.fst.s = (1 : Int)))] ∧
  [y.snd.fst.fail, !(!decide (y.snd.snd = (0 : Int)) || decide (y.fst.s < (0 : Int)) || decide ((4 : Int) < y.fst.s) || decide (y.fst.n < (-1 : Int)) || decide ((3 : Int) < y.fst.n) || y.snd.fst.back && !decide (y.fst.s = (1 : Int)))] = [y.snd.fst.fail, !(!decide (y.snd.snd = (0 : Int)) || decide (y.fst.s < (0 : Int)) || decide ((4 : Int) < y.fst.s) || decide (y.fst.n < (-1 : Int)) || decide ((3 : Int) < y.fst.n) || y.snd.fst.back && !decide (y.fst.s = (1 : Int)))] ∧
  SV.c (Value.bool (y.snd.fst.fail && decide (y.fst.s = (1 : Int)))) = SV.c (Value.bool (y.snd.fst.fail && decide (y.fst.s = (1 : Int))))) ∧ [!(!decide (y.snd.snd = (0 : Int)) || decide (y.fst.s < (0 : Int)) || decide ((4 : Int) < y.fst.s) || decide (y.fst.n < (-1 : Int)) || decide ((3 : Int) < y.fst.n) || y.snd.fst.back && !decide (y.fst.s = (1 : Int)))] = [!(!decide (y.snd.snd = (0 : Int)) || decide (y.fst.s < (0 : Int)) || decide ((4 : Int) < y.fst.s) || decide (y.fst.n < (-1 : Int)) || decide ((3 : Int) < y.fst.n) || y.snd.fst.back && !decide (y.fst.s = (1 : Int)))] ∧
  ((!decide (y.snd.snd = (0 : Int)) || decide (y.fst.s < (0 : Int)) || decide ((4 : Int) < y.fst.s) || decide (y.fst.n < (-1 : Int)) || decide ((3 : Int) < y.fst.n) || y.snd.fst.back && !decide (y.fst.s = (1 : Int)) || y.snd.fst.fail && decide (y.fst.s = (1 : Int))) = true →
  false = true ∧ (true && true) = true) ∧ ((!decide (y.snd.snd = (0 : Int)) || decide (y.fst.s < (0 : Int)) || decide ((4 : Int) < y.fst.s) || decide (y.fst.n < (-1 : Int)) || decide ((3 : Int) < y.fst.n) || y.snd.fst.back && !decide (y.fst.s = (1 : Int)) || y.snd.fst.fail && decide (y.fst.s = (1 : Int))) = false →
  (y.snd.fst.fail = true → (g.snd.fst = true → false = true ∧ (true && true) = true) ∧ (g.snd.fst = false → (y.snd.fst.back = true → True ∧ (allT [decide (y.fst.s = (1 : Int))] →
  SV.p (1 : Nat) (0 : Nat) = SV.p (1 : Nat) (0 : Nat)) ∧ (allT [decide (y.fst.s = (1 : Int))] → [decide (y.fst.s = (1 : Int))] = [decide (y.fst.s = (1 : Int))] ∧
  SV.c (Value.int IntKind.i64 g.snd.snd.s) = SV.c (Value.int IntKind.i64 g.snd.snd.s)) ∧ (allT [decide (y.fst.s = (1 : Int))] → [decide (y.fst.s = (1 : Int))] = [decide (y.fst.s = (1 : Int))] ∧
  True ∧ SV.c (Value.bool (decide (g.snd.snd.s = (0 : Int)))) = SV.c (Value.bool (decide (g.snd.snd.s = (0 : Int))))) ∧ [decide (y.fst.s = (1 : Int))] = [decide (y.fst.s = (1 : Int))] ∧
  ((decide (y.fst.s = (1 : Int)) && decide (g.snd.snd.s = (0 : Int))) = true → True ∧ ∃ (g' : Int × Bool × Wt), ((0 : Int) ≤ g'.fst ∧ g'.fst ≤ (300 : Int) ∧
  ((0 : Int) ≤ g'.snd.snd.s ∧ g'.snd.snd.s ≤ (4 : Int) ∧ (-1 : Int) ≤ g'.snd.snd.n ∧ g'.snd.snd.n ≤ (3 : Int)) ∧ (g'.snd.fst = true → g'.snd.snd.s ≠ (1 : Int))) ∧
  ((300 : Int) - g'.fst).toNat < ((300 : Int) - g.fst).toNat ∧ (IntKind.i64.wrap (g.fst + (1 : Int)) = g'.fst ∧ false = g'.snd.fst ∧ y.fst.s = g'.snd.snd.s ∧
  y.fst.p = g'.snd.snd.p ∧ y.fst.n = g'.snd.snd.n ∧ (!false && true && true && ((Nat.ble (2 : Nat) (1 : Nat) || (Nat.beq (1 : Nat) (1 : Nat) || false)) && true)) = true) ∧
  (some (SV.p (1 : Nat) (0 : Nat)) = some (SV.p (1 : Nat) (0 : Nat)) ∧ some (SV.agg [SV.c (Value.int IntKind.i64 (0 : Int)), SV.b false, SV.c (Value.int IntKind.i64 (0 : Int))]) = some (SV.agg [SV.c (Value.int IntKind.i64 (0 : Int)), SV.b false, SV.c (Value.int IntKind.i64 (0 : Int))]) ∧
  some (SV.a (0 : Nat)) = some (SV.a (0 : Nat)) ∧ True) ∧ some (R.ro (D.ints IntKind.u8 xs)) = some (R.ro (D.ints IntKind.u8 xs)) ∧ True) ∧ ((decide (y.fst.s = (1 : Int)) && decide (g.snd.snd.s = (0 : Int))) = false →
  True ∧ ∃ (g' : Int × Bool × Wt), ((0 : Int) ≤ g'.fst ∧ g'.fst ≤ (300 : Int) ∧ ((0 : Int) ≤ g'.snd.snd.s ∧ g'.snd.snd.s ≤ (4 : Int) ∧ (-1 : Int) ≤ g'.snd.snd.n ∧
  g'.snd.snd.n ≤ (3 : Int)) ∧ (g'.snd.fst = true → g'.snd.snd.s ≠ (1 : Int))) ∧ ((300 : Int) - g'.fst).toNat < ((300 : Int) - g.fst).toNat ∧ (IntKind.i64.wrap (g.fst + (1 : Int)) = g'.fst ∧
  false = g'.snd.fst ∧ y.fst.s = g'.snd.snd.s ∧ y.fst.p = g'.snd.snd.p ∧ y.fst.n = g'.snd.snd.n ∧ (!false && true && true && ((Nat.ble (2 : Nat) (1 : Nat) || (Nat.beq (1 : Nat) (1 : Nat) || false)) && true)) = true) ∧
  (some (SV.p (1 : Nat) (0 : Nat)) = some (SV.p (1 : Nat) (0 : Nat)) ∧ some (SV.agg [SV.c (Value.int IntKind.i64 (0 : Int)), SV.b false, SV.c (Value.int IntKind.i64 (0 : Int))]) = some (SV.agg [SV.c (Value.int IntKind.i64 (0 : Int)), SV.b false, SV.c (Value.int IntKind.i64 (0 : Int))]) ∧
  some (SV.a (0 : Nat)) = some (SV.a (0 : Nat)) ∧ True) ∧ some (R.ro (D.ints IntKind.u8 xs)) = some (R.ro (D.ints IntKind.u8 xs)) ∧ True)) ∧ (y.snd.fst.back = false →
  True ∧ (allT [decide (y.fst.s = (1 : Int))] → SV.p (1 : Nat) (0 : Nat) = SV.p (1 : Nat) (0 : Nat)) ∧ (allT [decide (y.fst.s = (1 : Int))] → [decide (y.fst.s = (1 : Int))] = [decide (y.fst.s = (1 : Int))] ∧
  SV.c (Value.int IntKind.i64 g.snd.snd.s) = SV.c (Value.int IntKind.i64 g.snd.snd.s)) ∧ (allT [decide (y.fst.s = (1 : Int))] → [decide (y.fst.s = (1 : Int))] = [decide (y.fst.s = (1 : Int))] ∧
  True ∧ SV.c (Value.bool (decide (g.snd.snd.s = (0 : Int)))) = SV.c (Value.bool (decide (g.snd.snd.s = (0 : Int))))) ∧ [decide (y.fst.s = (1 : Int))] = [decide (y.fst.s = (1 : Int))] ∧
  ((decide (y.fst.s = (1 : Int)) && decide (g.snd.snd.s = (0 : Int))) = true → True ∧ ∃ (g' : Int × Bool × Wt), ((0 : Int) ≤ g'.fst ∧ g'.fst ≤ (300 : Int) ∧
  ((0 : Int) ≤ g'.snd.snd.s ∧ g'.snd.snd.s ≤ (4 : Int) ∧ (-1 : Int) ≤ g'.snd.snd.n ∧ g'.snd.snd.n ≤ (3 : Int)) ∧ (g'.snd.fst = true → g'.snd.snd.s ≠ (1 : Int))) ∧
  ((300 : Int) - g'.fst).toNat < ((300 : Int) - g.fst).toNat ∧ (IntKind.i64.wrap (g.fst + (1 : Int)) = g'.fst ∧ false = g'.snd.fst ∧ y.fst.s = g'.snd.snd.s ∧
  y.fst.p = g'.snd.snd.p ∧ y.fst.n = g'.snd.snd.n ∧ (!false && true && true && ((Nat.ble (2 : Nat) (1 : Nat) || (Nat.beq (1 : Nat) (1 : Nat) || false)) && true)) = true) ∧
  (some (SV.p (1 : Nat) (0 : Nat)) = some (SV.p (1 : Nat) (0 : Nat)) ∧ some (SV.agg [SV.c (Value.int IntKind.i64 (0 : Int)), SV.b false, SV.c (Value.int IntKind.i64 (0 : Int))]) = some (SV.agg [SV.c (Value.int IntKind.i64 (0 : Int)), SV.b false, SV.c (Value.int IntKind.i64 (0 : Int))]) ∧
  some (SV.a (0 : Nat)) = some (SV.a (0 : Nat)) ∧ True) ∧ some (R.ro (D.ints IntKind.u8 xs)) = some (R.ro (D.ints IntKind.u8 xs)) ∧ True) ∧ ((decide (y.fst.s = (1 : Int)) && decide (g.snd.snd.s = (0 : Int))) = false →
  True ∧ ∃ (g' : Int × Bool × Wt), ((0 : Int) ≤ g'.fst ∧ g'.fst ≤ (300 : Int) ∧ ((0 : Int) ≤ g'.snd.snd.s ∧ g'.snd.snd.s ≤ (4 : Int) ∧ (-1 : Int) ≤ g'.snd.snd.n ∧
  g'.snd.snd.n ≤ (3 : Int)) ∧ (g'.snd.fst = true → g'.snd.snd.s ≠ (1 : Int))) ∧ ((300 : Int) - g'.fst).toNat < ((300 : Int) - g.fst).toNat ∧ (IntKind.i64.wrap (g.fst + (1 : Int)) = g'.fst ∧
  true = g'.snd.fst ∧ y.fst.s = g'.snd.snd.s ∧ y.fst.p = g'.snd.snd.p ∧ y.fst.n = g'.snd.snd.n ∧ (!false && true && true && ((Nat.ble (2 : Nat) (1 : Nat) || (Nat.beq (1 : Nat) (1 : Nat) || false)) && true)) = true) ∧
  (some (SV.p (1 : Nat) (0 : Nat)) = some (SV.p (1 : Nat) (0 : Nat)) ∧ some (SV.agg [SV.c (Value.int IntKind.i64 (0 : Int)), SV.b false, SV.c (Value.int IntKind.i64 (0 : Int))]) = some (SV.agg [SV.c (Value.int IntKind.i64 (0 : Int)), SV.b false, SV.c (Value.int IntKind.i64 (0 : Int))]) ∧
  some (SV.a (0 : Nat)) = some (SV.a (0 : Nat)) ∧ True) ∧ some (R.ro (D.ints IntKind.u8 xs)) = some (R.ro (D.ints IntKind.u8 xs)) ∧ True)))) ∧ (y.snd.fst.fail = false →
  (y.snd.fst.back = true → True ∧ (allT [decide (y.fst.s = (1 : Int))] → SV.p (1 : Nat) (0 : Nat) = SV.p (1 : Nat) (0 : Nat)) ∧ (allT [decide (y.fst.s = (1 : Int))] →
  [decide (y.fst.s = (1 : Int))] = [decide (y.fst.s = (1 : Int))] ∧ SV.c (Value.int IntKind.i64 g.snd.snd.s) = SV.c (Value.int IntKind.i64 g.snd.snd.s)) ∧
  (allT [decide (y.fst.s = (1 : Int))] → [decide (y.fst.s = (1 : Int))] = [decide (y.fst.s = (1 : Int))] ∧ True ∧ SV.c (Value.bool (decide (g.snd.snd.s = (0 : Int)))) = SV.c (Value.bool (decide (g.snd.snd.s = (0 : Int))))) ∧
  [decide (y.fst.s = (1 : Int))] = [decide (y.fst.s = (1 : Int))] ∧ ((decide (y.fst.s = (1 : Int)) && decide (g.snd.snd.s = (0 : Int))) = true → True ∧ ∃ (g' : Int × Bool × Wt), ((0 : Int) ≤ g'.fst ∧
  g'.fst ≤ (300 : Int) ∧ ((0 : Int) ≤ g'.snd.snd.s ∧ g'.snd.snd.s ≤ (4 : Int) ∧ (-1 : Int) ≤ g'.snd.snd.n ∧ g'.snd.snd.n ≤ (3 : Int)) ∧ (g'.snd.fst = true →
  g'.snd.snd.s ≠ (1 : Int))) ∧ ((300 : Int) - g'.fst).toNat < ((300 : Int) - g.fst).toNat ∧ (IntKind.i64.wrap (g.fst + (1 : Int)) = g'.fst ∧ false = g'.snd.fst ∧
  y.fst.s = g'.snd.snd.s ∧ y.fst.p = g'.snd.snd.p ∧ y.fst.n = g'.snd.snd.n ∧ (!false && true && true && ((Nat.ble (2 : Nat) (1 : Nat) || (Nat.beq (1 : Nat) (1 : Nat) || false)) && true)) = true) ∧
  (some (SV.p (1 : Nat) (0 : Nat)) = some (SV.p (1 : Nat) (0 : Nat)) ∧ some (SV.agg [SV.c (Value.int IntKind.i64 (0 : Int)), SV.b false, SV.c (Value.int IntKind.i64 (0 : Int))]) = some (SV.agg [SV.c (Value.int IntKind.i64 (0 : Int)), SV.b false, SV.c (Value.int IntKind.i64 (0 : Int))]) ∧
  some (SV.a (0 : Nat)) = some (SV.a (0 : Nat)) ∧ True) ∧ some (R.ro (D.ints IntKind.u8 xs)) = some (R.ro (D.ints IntKind.u8 xs)) ∧ True) ∧ ((decide (y.fst.s = (1 : Int)) && decide (g.snd.snd.s = (0 : Int))) = false →
  True ∧ ∃ (g' : Int × Bool × Wt), ((0 : Int) ≤ g'.fst ∧ g'.fst ≤ (300 : Int) ∧ ((0 : Int) ≤ g'.snd.snd.s ∧ g'.snd.snd.s ≤ (4 : Int) ∧ (-1 : Int) ≤ g'.snd.snd.n ∧
  g'.snd.snd.n ≤ (3 : Int)) ∧ (g'.snd.fst = true → g'.snd.snd.s ≠ (1 : Int))) ∧ ((300 : Int) - g'.fst).toNat < ((300 : Int) - g.fst).toNat ∧ (IntKind.i64.wrap (g.fst + (1 : Int)) = g'.fst ∧
  false = g'.snd.fst ∧ y.fst.s = g'.snd.snd.s ∧ y.fst.p = g'.snd.snd.p ∧ y.fst.n = g'.snd.snd.n ∧ (!false && true && true && ((Nat.ble (2 : Nat) (1 : Nat) || (Nat.beq (1 : Nat) (1 : Nat) || false)) && true)) = true) ∧
  (some (SV.p (1 : Nat) (0 : Nat)) = some (SV.p (1 : Nat) (0 : Nat)) ∧ some (SV.agg [SV.c (Value.int IntKind.i64 (0 : Int)), SV.b false, SV.c (Value.int IntKind.i64 (0 : Int))]) = some (SV.agg [SV.c (Value.int IntKind.i64 (0 : Int)), SV.b false, SV.c (Value.int IntKind.i64 (0 : Int))]) ∧
  some (SV.a (0 : Nat)) = some (SV.a (0 : Nat)) ∧ True) ∧ some (R.ro (D.ints IntKind.u8 xs)) = some (R.ro (D.ints IntKind.u8 xs)) ∧ True)) ∧ (y.snd.fst.back = false →
  True ∧ (allT [decide (y.fst.s = (1 : Int))] → SV.p (1 : Nat) (0 : Nat) = SV.p (1 : Nat) (0 : Nat)) ∧ (allT [decide (y.fst.s = (1 : Int))] → [decide (y.fst.s = (1 : Int))] = [decide (y.fst.s = (1 : Int))] ∧
  SV.c (Value.int IntKind.i64 g.snd.snd.s) = SV.c (Value.int IntKind.i64 g.snd.snd.s)) ∧ (allT [decide (y.fst.s = (1 : Int))] → [decide (y.fst.s = (1 : Int))] = [decide (y.fst.s = (1 : Int))] ∧
  True ∧ SV.c (Value.bool (decide (g.snd.snd.s = (0 : Int)))) = SV.c (Value.bool (decide (g.snd.snd.s = (0 : Int))))) ∧ [decide (y.fst.s = (1 : Int))] = [decide (y.fst.s = (1 : Int))] ∧
  ((decide (y.fst.s = (1 : Int)) && decide (g.snd.snd.s = (0 : Int))) = true → True ∧ ∃ (g' : Int × Bool × Wt), ((0 : Int) ≤ g'.fst ∧ g'.fst ≤ (300 : Int) ∧
  ((0 : Int) ≤ g'.snd.snd.s ∧ g'.snd.snd.s ≤ (4 : Int) ∧ (-1 : Int) ≤ g'.snd.snd.n ∧ g'.snd.snd.n ≤ (3 : Int)) ∧ (g'.snd.fst = true → g'.snd.snd.s ≠ (1 : Int))) ∧
  ((300 : Int) - g'.fst).toNat < ((300 : Int) - g.fst).toNat ∧ (IntKind.i64.wrap (g.fst + (1 : Int)) = g'.fst ∧ false = g'.snd.fst ∧ y.fst.s = g'.snd.snd.s ∧
  y.fst.p = g'.snd.snd.p ∧ y.fst.n = g'.snd.snd.n ∧ (!false && true && true && ((Nat.ble (2 : Nat) (1 : Nat) || (Nat.beq (1 : Nat) (1 : Nat) || false)) && true)) = true) ∧
  (some (SV.p (1 : Nat) (0 : Nat)) = some (SV.p (1 : Nat) (0 : Nat)) ∧ some (SV.agg [SV.c (Value.int IntKind.i64 (0 : Int)), SV.b false, SV.c (Value.int IntKind.i64 (0 : Int))]) = some (SV.agg [SV.c (Value.int IntKind.i64 (0 : Int)), SV.b false, SV.c (Value.int IntKind.i64 (0 : Int))]) ∧
  some (SV.a (0 : Nat)) = some (SV.a (0 : Nat)) ∧ True) ∧ some (R.ro (D.ints IntKind.u8 xs)) = some (R.ro (D.ints IntKind.u8 xs)) ∧ True) ∧ ((decide (y.fst.s = (1 : Int)) && decide (g.snd.snd.s = (0 : Int))) = false →
  True ∧ ∃ (g' : Int × Bool × Wt), ((0 : Int) ≤ g'.fst ∧ g'.fst ≤ (300 : Int) ∧ ((0 : Int) ≤ g'.snd.snd.s ∧ g'.snd.snd.s ≤ (4 : Int) ∧ (-1 : Int) ≤ g'.snd.snd.n ∧
  g'.snd.snd.n ≤ (3 : Int)) ∧ (g'.snd.fst = true → g'.snd.snd.s ≠ (1 : Int))) ∧ ((300 : Int) - g'.fst).toNat < ((300 : Int) - g.fst).toNat ∧ (IntKind.i64.wrap (g.fst + (1 : Int)) = g'.fst ∧
  g.snd.fst = g'.snd.fst ∧ y.fst.s = g'.snd.snd.s ∧ y.fst.p = g'.snd.snd.p ∧ y.fst.n = g'.snd.snd.n ∧ (!false && true && true && ((Nat.ble (2 : Nat) (1 : Nat) || (Nat.beq (1 : Nat) (1 : Nat) || false)) && true)) = true) ∧
  (some (SV.p (1 : Nat) (0 : Nat)) = some (SV.p (1 : Nat) (0 : Nat)) ∧ some (SV.agg [SV.c (Value.int IntKind.i64 (0 : Int)), SV.b false, SV.c (Value.int IntKind.i64 (0 : Int))]) = some (SV.agg [SV.c (Value.int IntKind.i64 (0 : Int)), SV.b false, SV.c (Value.int IntKind.i64 (0 : Int))]) ∧
  some (SV.a (0 : Nat)) = some (SV.a (0 : Nat)) ∧ True) ∧ some (R.ro (D.ints IntKind.u8 xs)) = some (R.ro (D.ints IntKind.u8 xs)) ∧ True))))) ∧ ((decide (g.fst < ↑xs.length) && decide (g.fst < (300 : Int))) = false →
  ∃ (g0_1 : Int × Wt), ((0 : Int) ≤ g0_1.fst ∧ g0_1.fst ≤ (6 : Int) ∧ ((0 : Int) ≤ g0_1.snd.s ∧ g0_1.snd.s ≤ (4 : Int) ∧ (-1 : Int) ≤ g0_1.snd.n ∧ g0_1.snd.n ≤ (3 : Int)) ∧
  leftF g0_1.snd + g0_1.fst ≤ (6 : Int)) ∧ (0 : Int) = g0_1.fst ∧ g.snd.snd.s = g0_1.snd.s ∧ g.snd.snd.p = g0_1.snd.p ∧ g.snd.snd.n = g0_1.snd.n ∧ (!false && true && true) = true ∧
  ∀ (g_1 : Int × Wt), (0 : Int) ≤ g_1.fst ∧ g_1.fst ≤ (6 : Int) ∧ ((0 : Int) ≤ g_1.snd.s ∧ g_1.snd.s ≤ (4 : Int) ∧ (-1 : Int) ≤ g_1.snd.n ∧ g_1.snd.n ≤ (3 : Int)) ∧
  leftF g_1.snd + g_1.fst ≤ (6 : Int) → True ∧ (allT [decide (g_1.fst < (6 : Int))] → SV.p (1 : Nat) (0 : Nat) = SV.p (1 : Nat) (0 : Nat)) ∧ (allT [decide (g_1.fst < (6 : Int))] →
  [decide (g_1.fst < (6 : Int))] = [decide (g_1.fst < (6 : Int))] ∧ SV.c (Value.int IntKind.i64 g_1.snd.s) = SV.c (Value.int IntKind.i64 g_1.snd.s)) ∧ (allT [decide (g_1.fst < (6 : Int))] →
  [decide (g_1.fst < (6 : Int))] = [decide (g_1.fst < (6 : Int))] ∧ True ∧ SV.c (Value.bool !decide (g_1.snd.s = (3 : Int))) = SV.c (Value.bool !decide (g_1.snd.s = (3 : Int)))) ∧
  [decide (g_1.fst < (6 : Int))] = [decide (g_1.fst < (6 : Int))] ∧ (allT [decide (g_1.fst < (6 : Int)) && !decide (g_1.snd.s = (3 : Int))] → SV.p (1 : Nat) (0 : Nat) = SV.p (1 : Nat) (0 : Nat)) ∧
  (allT [decide (g_1.fst < (6 : Int)) && !decide (g_1.snd.s = (3 : Int))] → [decide (g_1.fst < (6 : Int)) && !decide (g_1.snd.s = (3 : Int))] = [decide (g_1.fst < (6 : Int)) && !decide (g_1.snd.s = (3 : Int))] ∧
  SV.c (Value.int IntKind.i64 g_1.snd.s) = SV.c (Value.int IntKind.i64 g_1.snd.s)) ∧ (allT [decide (g_1.fst < (6 : Int)) && !decide (g_1.snd.s = (3 : Int))] →
  [decide (g_1.fst < (6 : Int)) && !decide (g_1.snd.s = (3 : Int))] = [decide (g_1.fst < (6 : Int)) && !decide (g_1.snd.s = (3 : Int))] ∧ True ∧ SV.c (Value.bool !decide (g_1.snd.s = (0 : Int))) = SV.c (Value.bool !decide (g_1.snd.s = (0 : Int)))) ∧
  [decide (g_1.fst < (6 : Int)) && !decide (g_1.snd.s = (3 : Int))] = [decide (g_1.fst < (6 : Int)) && !decide (g_1.snd.s = (3 : Int))] ∧ ((decide (g_1.fst < (6 : Int)) && !decide (g_1.snd.s = (3 : Int)) && !decide (g_1.snd.s = (0 : Int))) = true →
  (∃ (w : Wt), ∃ (e : Int), [O.agg [O.d (D.v (Value.int IntKind.i64 g_1.snd.s)), O.d (D.v (Value.bool g_1.snd.p)), O.d (D.v (Value.int IntKind.i64 g_1.snd.n))], O.d (D.v (Value.int IntKind.i64 (5 : Int)))] = [O.agg [O.d (D.v (Value.int IntKind.i64 w.s)), O.d (D.v (Value.bool w.p)), O.d (D.v (Value.int IntKind.i64 w.n))], O.d (D.v (Value.int IntKind.i64 e))]) ∧
  True ∧ ((!decide ((stepF (Wt.mk g_1.snd.s g_1.snd.p g_1.snd.n) (5 : Int)).snd.snd = (0 : Int))) = true → false = true ∧ (true && true) = true) ∧ ((!decide ((stepF (Wt.mk g_1.snd.s g_1.snd.p g_1.snd.n) (5 : Int)).snd.snd = (0 : Int))) = false →
  True ∧ ∃ (g' : Int × Wt), ((0 : Int) ≤ g'.fst ∧ g'.fst ≤ (6 : Int) ∧ ((0 : Int) ≤ g'.snd.s ∧ g'.snd.s ≤ (4 : Int) ∧ (-1 : Int) ≤ g'.snd.n ∧ g'.snd.n ≤ (3 : Int)) ∧
  leftF g'.snd + g'.fst ≤ (6 : Int)) ∧ ((6 : Int) - g'.fst).toNat < ((6 : Int) - g_1.fst).toNat ∧ (IntKind.i64.wrap (g_1.fst + (1 : Int)) = g'.fst ∧ (stepF (Wt.mk g_1.snd.s g_1.snd.p g_1.snd.n) (5 : Int)).fst.s = g'.snd.s ∧
  (stepF (Wt.mk g_1.snd.s g_1.snd.p g_1.snd.n) (5 : Int)).fst.p = g'.snd.p ∧ (stepF (Wt.mk g_1.snd.s g_1.snd.p g_1.snd.n) (5 : Int)).fst.n = g'.snd.n ∧ (!false && true && true && ((Nat.ble (2 : Nat) (1 : Nat) || (Nat.beq (1 : Nat) (1 : Nat) || false)) && true)) = true) ∧
  (some (SV.c (Value.bool (decide (g.fst < ↑xs.length) && decide (g.fst < (300 : Int))))) = some (SV.c (Value.bool (decide (g.fst < ↑xs.length) && decide (g.fst < (300 : Int))))) ∧
  some (SV.w [decide (g.fst < ↑xs.length)] (SV.c (Value.bool (decide (g.fst < (300 : Int)))))) = some (SV.w [decide (g.fst < ↑xs.length)] (SV.c (Value.bool (decide (g.fst < (300 : Int)))))) ∧
  some (SV.w [decide (g.fst < ↑xs.length)] (SV.c (Value.int IntKind.i64 g.fst))) = some (SV.w [decide (g.fst < ↑xs.length)] (SV.c (Value.int IntKind.i64 g.fst))) ∧
  some (SV.c (Value.bool (decide (g.fst < ↑xs.length)))) = some (SV.c (Value.bool (decide (g.fst < ↑xs.length)))) ∧ some (SV.c (Value.bool (decide (g.fst < ↑xs.length)))) = some (SV.c (Value.bool (decide (g.fst < ↑xs.length)))) ∧
  some (SV.c (Value.int IntKind.i64 ↑xs.length)) = some (SV.c (Value.int IntKind.i64 ↑xs.length)) ∧ some (SV.a (0 : Nat)) = some (SV.a (0 : Nat)) ∧ some (SV.c (Value.int IntKind.i64 g.fst)) = some (SV.c (Value.int IntKind.i64 g.fst)) ∧
  some (SV.c (Value.int IntKind.i64 g.fst)) = some (SV.c (Value.int IntKind.i64 g.fst)) ∧ some (SV.c (Value.bool g.snd.fst)) = some (SV.c (Value.bool g.snd.fst)) ∧
  some (SV.p (1 : Nat) (0 : Nat)) = some (SV.p (1 : Nat) (0 : Nat)) ∧ some (SV.agg [SV.c (Value.int IntKind.i64 (0 : Int)), SV.b false, SV.c (Value.int IntKind.i64 (0 : Int))]) = some (SV.agg [SV.c (Value.int IntKind.i64 (0 : Int)), SV.b false, SV.c (Value.int IntKind.i64 (0 : Int))]) ∧
  some (SV.a (0 : Nat)) = some (SV.a (0 : Nat)) ∧ True) ∧ some (R.ro (D.ints IntKind.u8 xs)) = some (R.ro (D.ints IntKind.u8 xs)) ∧ True)) ∧ ((decide (g_1.fst < (6 : Int)) && !decide (g_1.snd.s = (3 : Int)) && !decide (g_1.snd.s = (0 : Int))) = false →
  ([] : List O) = [] ∧ (allT [true] → SV.p (1 : Nat) (0 : Nat) = SV.p (1 : Nat) (0 : Nat)) ∧ (allT [true] → [true] = [true] ∧ SV.c (Value.int IntKind.i64 g_1.snd.s) = SV.c (Value.int IntKind.i64 g_1.snd.s)) ∧
  (allT [true] → [true] = [true] ∧ True ∧ SV.c (Value.bool (decide (g_1.snd.s = (3 : Int)))) = SV.c (Value.bool (decide (g_1.snd.s = (3 : Int))))) ∧ (allT [true] →
  [true] = [true] ∧ SV.c (Value.bool (decide (g_1.snd.s = (3 : Int)))) = SV.c (Value.bool (decide (g_1.snd.s = (3 : Int))))) ∧ (allT [!decide (g_1.snd.s = (3 : Int)), true] →
  SV.p (1 : Nat) (0 : Nat) = SV.p (1 : Nat) (0 : Nat)) ∧ (allT [!decide (g_1.snd.s = (3 : Int)), true] → [!decide (g_1.snd.s = (3 : Int)), true] = [!decide (g_1.snd.s = (3 : Int)), true] ∧
  SV.c (Value.int IntKind.i64 g_1.snd.s) = SV.c (Value.int IntKind.i64 g_1.snd.s)) ∧ (allT [!decide (g_1.snd.s = (3 : Int)), true] → [!decide (g_1.snd.s = (3 : Int)), true] = [!decide (g_1.snd.s = (3 : Int)), true] ∧
  True ∧ SV.c (Value.bool (decide (g_1.snd.s = (0 : Int)))) = SV.c (Value.bool (decide (g_1.snd.s = (0 : Int))))) ∧ (allT [true] → [true] = [true] ∧ [!decide (g_1.snd.s = (3 : Int)), true] = [!decide (g_1.snd.s = (3 : Int)), true] ∧
  SV.c (Value.bool (decide (g_1.snd.s = (3 : Int)) || decide (g_1.snd.s = (0 : Int)))) = SV.c (Value.bool (decide (g_1.snd.s = (3 : Int)) || decide (g_1.snd.s = (0 : Int))))) ∧
  [true] = [true] ∧ (true && (decide (g_1.snd.s = (3 : Int)) || decide (g_1.snd.s = (0 : Int)))) = true ∧ (true && true) = true)) := by
  simp only [true_and, and_true, implies_true, allT, Bool.and_self, Bool.not_false, List.mem_singleton, List.mem_cons, List.not_mem_nil, or_false, forall_eq]
  intro xs hx hl
  refine ⟨(0, false, ⟨0, false, 0⟩), by simp, rfl, rfl, rfl, rfl, rfl, ?_⟩
  rintro ⟨i, f, w⟩ ⟨h1, h2, h3, h4⟩
  simp only at h1 h2 h3 h4 ⊢
  refine ⟨fun hc => ?_, fun hc => ?_⟩
  · simp only [Bool.and_eq_true, decide_eq_true_eq] at hc
    have hx0 := getD_all hx (i := i.toNat) (by omega)
    have t0 := Int.tmod_nonneg 5 hx0.1
    have t1 := Int.tmod_lt_of_pos (xs.getD i.toNat 0) (show (0 : Int) < 5 by decide)
    rw [show IntKind.i64.wrap (IntKind.i64.wrap ((xs.getD i.toNat 0).tmod 5) + 1) = (xs.getD i.toNat 0).tmod 5 + 1 by rw [IntWalk.i64_in ((xs.getD i.toNat 0).tmod 5) (by omega), IntWalk.i64_in _ (by omega)]]
    generalize (xs.getD i.toNat 0).tmod 5 = e at *
    obtain ⟨r1, r2, r3, r4, r5⟩ := stepF_ok w (e + 1) h3 (by omega)
    have hw : IntKind.i64.wrap (i + 1) = i + 1 := IntWalk.i64_in _ (by omega)
    rw [hw]
    refine ⟨⟨h1, hc.1⟩, by decide, ⟨w, _, rfl⟩, ?_⟩
    generalize stepF w (e + 1) = r at *
    obtain ⟨x, d, er⟩ := r
    simp only at r1 r2 r3 r4 r5 ⊢
    have leaf : ∀ f' : Bool, (f' = true → x.s ≠ 1) → ∃ g' : Int × Bool × Wt, (0 ≤ g'.fst ∧ g'.fst ≤ 300 ∧ (0 ≤ g'.snd.snd.s ∧ g'.snd.snd.s ≤ 4 ∧ -1 ≤ g'.snd.snd.n ∧ g'.snd.snd.n ≤ 3) ∧ (g'.snd.fst = true → g'.snd.snd.s ≠ 1)) ∧
        (300 - g'.fst).toNat < (300 - i).toNat ∧ i + 1 = g'.fst ∧ f' = g'.snd.fst ∧ x.s = g'.snd.snd.s ∧ x.p = g'.snd.snd.p ∧ x.n = g'.snd.snd.n ∧ (true && ((Nat.ble 2 1 || (Nat.beq 1 1 || false)) && true)) = true :=
      fun f' hf => ⟨(i + 1, f', x), ⟨by simp only; omega, by simp only; omega, r2, hf⟩, by simp only; omega, rfl, rfl, rfl, rfl, rfl, rfl⟩
    refine ⟨fun hb => ?_, fun _ => ⟨fun hf => ⟨fun h => ?_, fun _ => ⟨fun hb => ⟨fun _ => leaf _ (by simp), fun _ => leaf _ (by simp)⟩, fun hb => ⟨fun _ => leaf _ (by simp), fun _ => leaf _ (fun _ => (r4 hf).1)⟩⟩⟩,
      fun hf => ⟨fun hb => ⟨fun _ => leaf _ (by simp), fun _ => leaf _ (by simp)⟩, fun hb => ⟨fun _ => leaf _ (by simp), fun hh => leaf _ (fun hf' hx1 => ?_)⟩⟩⟩⟩
    · exfalso
      simp only [Bool.or_eq_true, Bool.and_eq_true, Bool.not_eq_true', decide_eq_true_eq, decide_eq_false_iff_not] at hb
      rcases hb with (((((hb | hb) | hb) | hb) | hb) | hb) | hb
      · exact hb r1
      · omega
      · omega
      · omega
      · omega
      · exact hb.2 (r3 hb.1)
      · exact (r4 hb.1).1 hb.2
    · exact absurd (r4 hf).2 (h4 h)
    · rcases r5 hx1 (h4 hf') with h | h
      · rw [h] at hb; cases hb
      · simp [hx1, h] at hh
  · obtain ⟨l1, l2, l3⟩ := left_pos w
    refine ⟨(0, w), ⟨by simp, by simp, h3, by simp only; omega⟩, rfl, rfl, rfl, rfl, ?_⟩
    rintro ⟨j, v⟩ ⟨g1, g2, g3, g4⟩
    simp only at g1 g2 g3 g4 ⊢
    obtain ⟨m1, m2, m3⟩ := left_pos v
    refine ⟨fun hj => ?_, fun hj => ?_⟩
    · simp only [Bool.and_eq_true, Bool.not_eq_true', decide_eq_true_eq, decide_eq_false_iff_not] at hj
      obtain ⟨r1, r2, _⟩ := stepF_ok v 5 g3 (by omega)
      have r3 := alarm_left v g3 hj.1.2 hj.2
      rw [show IntKind.i64.wrap (j + 1) = j + 1 from IntWalk.i64_in _ (by omega)]
      refine ⟨⟨v, _, rfl⟩, fun h => ?_, fun _ => ⟨(j + 1, (stepF v 5).1), ⟨by simp only; omega, by simp only; omega, r2, by simp only; omega⟩, by simp only; omega, rfl, rfl, rfl, rfl, rfl⟩⟩
      rw [r1] at h; simp at h
    · simp only [Bool.and_eq_false_iff, Bool.not_eq_false', decide_eq_true_eq, decide_eq_false_iff_not] at hj
      by_cases e3 : v.s = 3
      · simp [e3]
      · by_cases e0 : v.s = 0
        · simp [e0]
        · have := m2 e3 e0
          exfalso
          rcases hj with (hj | hj) | hj <;> omega
theorem ok8 : FnIs Try.prog 8 bytesC := by
  refine fnIs (C := ctrs c5) (by kernel_rfl) c5_ok Try.func8 (code := code8) (by kernel_rfl) (by kernel_rfl) ?_
  rintro a ⟨xs, rfl, hx, hl⟩
  exact ⟨anns [(4, walksAnn), (20, endAnn)], kcast (vc8 xs hx hl) (by kernel_rfl)⟩

end Go.YR
