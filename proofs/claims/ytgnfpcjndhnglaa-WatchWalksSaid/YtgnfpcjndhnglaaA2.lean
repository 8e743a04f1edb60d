/- The watch's step, run. -/
import Derived.Test.YtgnfpcjndhnglaaRows
import Derived.Test.YtgnfpcjndhnglaaA0
import Derived.Test.YtgnfpcjndhnglaaA1
namespace Go.YR
open Go.Proofs
open Go.Y Go.YM Go.RowKit
theorem c2_ok : COk Try.prog (ctrs c2) := cok_cons ok32 (cok_cons ok33 (cok_cons ok34 (cok_cons ok35 cok_nil)))
noncomputable def code19 : Code := match Try.f19.body with | some c => c | none => .skip
theorem vc19 : ∀ (w : Wt) (e : Int), True ∧ (allT [!decide (w.s < (0 : Int))] → SV.p (0 : Nat) (0 : Nat) = SV.p (0 : Nat) (0 : Nat)) ∧ (allT [!decide (w.s < (0 : Int))] → [!decide (w.s < (0 :
  Int))] = [!decide (w.s < (0 : Int))] ∧ SV.c (Value.int IntKind.i64 w.s) = SV.c (Value.int IntKind.i64 w.s)) ∧ (allT [!decide (w.s < (0 : Int))] → [!decide (w.s < (0 : Int))] =
  [!decide (w.s < (0 : Int))] ∧ True ∧ SV.c (Value.bool (decide ((4 : Int) < w.s))) = SV.c (Value.bool (decide ((4 : Int) < w.s)))) ∧ [!decide (w.s < (0 : Int))] = [!decide (w.s < (0
  : Int))] ∧ (allT [!(decide (w.s < (0 : Int)) || decide ((4 : Int) < w.s))] → SV.p (0 : Nat) (2 : Nat) = SV.p (0 : Nat) (2 : Nat)) ∧ (allT [!(decide (w.s < (0 : Int)) || decide ((4 :
  Int) < w.s))] → [!(decide (w.s < (0 : Int)) || decide ((4 : Int) < w.s))] = [!(decide (w.s < (0 : Int)) || decide ((4 : Int) < w.s))] ∧ SV.c (Value.int IntKind.i64 w.n) = SV.c
  (Value.int IntKind.i64 w.n)) ∧ (allT [!(decide (w.s < (0 : Int)) || decide ((4 : Int) < w.s))] → [!(decide (w.s < (0 : Int)) || decide ((4 : Int) < w.s))] = [!(decide (w.s < (0 :
  Int)) || decide ((4 : Int) < w.s))] ∧ True ∧ SV.c (Value.bool (decide (w.n < (-1 : Int)))) = SV.c (Value.bool (decide (w.n < (-1 : Int))))) ∧ [!(decide (w.s < (0 : Int)) || decide
  ((4 : Int) < w.s))] = [!(decide (w.s < (0 : Int)) || decide ((4 : Int) < w.s))] ∧ (allT [!(decide (w.s < (0 : Int)) || decide ((4 : Int) < w.s) || decide (w.n < (-1 : Int)))] → SV.p
  (0 : Nat) (2 : Nat) = SV.p (0 : Nat) (2 : Nat)) ∧ (allT [!(decide (w.s < (0 : Int)) || decide ((4 : Int) < w.s) || decide (w.n < (-1 : Int)))] → [!(decide (w.s < (0 : Int)) ||
  decide ((4 : Int) < w.s) || decide (w.n < (-1 : Int)))] = [!(decide (w.s < (0 : Int)) || decide ((4 : Int) < w.s) || decide (w.n < (-1 : Int)))] ∧ SV.c (Value.int IntKind.i64 w.n) =
  SV.c (Value.int IntKind.i64 w.n)) ∧ (allT [!(decide (w.s < (0 : Int)) || decide ((4 : Int) < w.s) || decide (w.n < (-1 : Int)))] → [!(decide (w.s < (0 : Int)) || decide ((4 : Int) <
  w.s) || decide (w.n < (-1 : Int)))] = [!(decide (w.s < (0 : Int)) || decide ((4 : Int) < w.s) || decide (w.n < (-1 : Int)))] ∧ True ∧ SV.c (Value.bool (decide ((3 : Int) < w.n))) =
  SV.c (Value.bool (decide ((3 : Int) < w.n)))) ∧ [!(decide (w.s < (0 : Int)) || decide ((4 : Int) < w.s) || decide (w.n < (-1 : Int)))] = [!(decide (w.s < (0 : Int)) || decide ((4 :
  Int) < w.s) || decide (w.n < (-1 : Int)))] ∧ (allT [!(decide (w.s < (0 : Int)) || decide ((4 : Int) < w.s) || decide (w.n < (-1 : Int)) || decide ((3 : Int) < w.n))] → SV.c
  (Value.int IntKind.i64 e) = SV.c (Value.int IntKind.i64 e)) ∧ (allT [!(decide (w.s < (0 : Int)) || decide ((4 : Int) < w.s) || decide (w.n < (-1 : Int)) || decide ((3 : Int) <
  w.n))] → [!(decide (w.s < (0 : Int)) || decide ((4 : Int) < w.s) || decide (w.n < (-1 : Int)) || decide ((3 : Int) < w.n))] = [!(decide (w.s < (0 : Int)) || decide ((4 : Int) < w.s)
  || decide (w.n < (-1 : Int)) || decide ((3 : Int) < w.n))] ∧ True ∧ SV.c (Value.bool (decide (e < (1 : Int)))) = SV.c (Value.bool (decide (e < (1 : Int))))) ∧ [!(decide (w.s < (0 :
  Int)) || decide ((4 : Int) < w.s) || decide (w.n < (-1 : Int)) || decide ((3 : Int) < w.n))] = [!(decide (w.s < (0 : Int)) || decide ((4 : Int) < w.s) || decide (w.n < (-1 : Int))
  || decide ((3 : Int) < w.n))] ∧ (allT [!(decide (w.s < (0 : Int)) || decide ((4 : Int) < w.s) || decide (w.n < (-1 : Int)) || decide ((3 : Int) < w.n) || decide (e < (1 : Int)))] →
  SV.c (Value.int IntKind.i64 e) = SV.c (Value.int IntKind.i64 e)) ∧ (allT [!(decide (w.s < (0 : Int)) || decide ((4 : Int) < w.s) || decide (w.n < (-1 : Int)) || decide ((3 : Int) <
  w.n) || decide (e < (1 : Int)))] → [!(decide (w.s < (0 : Int)) || decide ((4 : Int) < w.s) || decide (w.n < (-1 : Int)) || decide ((3 : Int) < w.n) || decide (e < (1 : Int)))] =
  [!(decide (w.s < (0 : Int)) || decide ((4 : Int) < w.s) || decide (w.n < (-1 : Int)) || decide ((3 : Int) < w.n) || decide (e < (1 : Int)))] ∧ True ∧ SV.c (Value.bool (decide ((5 :
  Int) < e))) = SV.c (Value.bool (decide ((5 : Int) < e)))) ∧ [!(decide (w.s < (0 : Int)) || decide ((4 : Int) < w.s) || decide (w.n < (-1 : Int)) || decide ((3 : Int) < w.n) ||
  decide (e < (1 : Int)))] = [!(decide (w.s < (0 : Int)) || decide ((4 : Int) < w.s) || decide (w.n < (-1 : Int)) || decide ((3 : Int) < w.n) || decide (e < (1 : Int)))] ∧ ((decide
  (w.s < (0 : Int)) || decide ((4 : Int) < w.s) || decide (w.n < (-1 : Int)) || decide ((3 : Int) < w.n) || decide (e < (1 : Int)) || decide ((5 : Int) < e)) = true → (0 : Int) =
  (stepF (Wt.mk w.s w.p w.n) e).fst.s ∧ false = (stepF (Wt.mk w.s w.p w.n) e).fst.p ∧ (0 : Int) = (stepF (Wt.mk w.s w.p w.n) e).fst.n ∧ false = (stepF (Wt.mk w.s w.p w.n)
  e).snd.fst.ask ∧ false = (stepF (Wt.mk w.s w.p w.n) e).snd.fst.fail ∧ false = (stepF (Wt.mk w.s w.p w.n) e).snd.fst.back ∧ false = (stepF (Wt.mk w.s w.p w.n) e).snd.fst.close ∧
  false = (stepF (Wt.mk w.s w.p w.n) e).snd.fst.tri ∧ false = (stepF (Wt.mk w.s w.p w.n) e).snd.fst.wind ∧ (1 : Int) = (stepF (Wt.mk w.s w.p w.n) e).snd.snd ∧ (true && true) = true) ∧
  ((decide (w.s < (0 : Int)) || decide ((4 : Int) < w.s) || decide (w.n < (-1 : Int)) || decide ((3 : Int) < w.n) || decide (e < (1 : Int)) || decide ((5 : Int) < e)) = false → True ∧
  (decide (e = (1 : Int)) = true → (∃ (w_1 : Wt), [O.ptr (49 : Nat) [O.d (D.v (Value.int IntKind.i64 w.s)), O.d (D.v (Value.bool w.p)), O.d (D.v (Value.int IntKind.i64 w.n))]] =
  [O.ptr (49 : Nat) [O.d (D.v (Value.int IntKind.i64 w_1.s)), O.d (D.v (Value.bool w_1.p)), O.d (D.v (Value.int IntKind.i64 w_1.n))]]) ∧ (((openedF (Wt.mk w.s w.p w.n)).fst.s = (stepF
  (Wt.mk w.s w.p w.n) e).fst.s ∧ (openedF (Wt.mk w.s w.p w.n)).fst.p = (stepF (Wt.mk w.s w.p w.n) e).fst.p ∧ (openedF (Wt.mk w.s w.p w.n)).fst.n = (stepF (Wt.mk w.s w.p w.n) e).fst.n
  ∧ (openedF (Wt.mk w.s w.p w.n)).snd.ask = (stepF (Wt.mk w.s w.p w.n) e).snd.fst.ask ∧ (openedF (Wt.mk w.s w.p w.n)).snd.fail = (stepF (Wt.mk w.s w.p w.n) e).snd.fst.fail ∧ (openedF
  (Wt.mk w.s w.p w.n)).snd.back = (stepF (Wt.mk w.s w.p w.n) e).snd.fst.back ∧ (openedF (Wt.mk w.s w.p w.n)).snd.close = (stepF (Wt.mk w.s w.p w.n) e).snd.fst.close ∧ (openedF (Wt.mk
  w.s w.p w.n)).snd.tri = (stepF (Wt.mk w.s w.p w.n) e).snd.fst.tri ∧ (openedF (Wt.mk w.s w.p w.n)).snd.wind = (stepF (Wt.mk w.s w.p w.n) e).snd.fst.wind ∧ (0 : Int) = (stepF (Wt.mk
  w.s w.p w.n) e).snd.snd ∧ (true && true) = true) ∧ True) ∧ True) ∧ (decide (e = (1 : Int)) = false → True ∧ (decide (e = (2 : Int)) = true → (∃ (w_1 : Wt), [O.ptr (49 : Nat) [O.d
  (D.v (Value.int IntKind.i64 w.s)), O.d (D.v (Value.bool w.p)), O.d (D.v (Value.int IntKind.i64 w.n))]] = [O.ptr (49 : Nat) [O.d (D.v (Value.int IntKind.i64 w_1.s)), O.d (D.v
  (Value.bool w_1.p)), O.d (D.v (Value.int IntKind.i64 w_1.n))]]) ∧ (((brokenF (Wt.mk w.s w.p w.n)).fst.s = (stepF (Wt.mk w.s w.p w.n) e).fst.s ∧ (brokenF (Wt.mk w.s w.p w.n)).fst.p =
  (stepF (Wt.mk w.s w.p w.n) e).fst.p ∧ (brokenF (Wt.mk w.s w.p w.n)).fst.n = (stepF (Wt.mk w.s w.p w.n) e).fst.n ∧ (brokenF (Wt.mk w.s w.p w.n)).snd.ask = (stepF (Wt.mk w.s w.p w.n)
  e).snd.fst.ask ∧ (brokenF (Wt.mk w.s w.p w.n)).snd.fail = (stepF (Wt.mk w.s w.p w.n) e).snd.fst.fail ∧ (brokenF (Wt.mk w.s w.p w.n)).snd.back = (stepF (Wt.mk w.s w.p w.n)
  e).snd.fst.back ∧ (brokenF (Wt.mk w.s w.p w.n)).snd.close = (stepF (Wt.mk w.s w.p w.n) e).snd.fst.close ∧ (brokenF (Wt.mk w.s w.p w.n)).snd.tri = (stepF (Wt.mk w.s w.p w.n)
  e).snd.fst.tri ∧ (brokenF (Wt.mk w.s w.p w.n)).snd.wind = (stepF (Wt.mk w.s w.p w.n) e).snd.fst.wind ∧ (0 : Int) = (stepF (Wt.mk w.s w.p w.n) e).snd.snd ∧ (true && true) = true) ∧
  True) ∧ True) ∧ (decide (e = (2 : Int)) = false → True ∧ (decide (e = (3 : Int)) = true → (decide (e = (3 : Int)) = true → True ∧ (∃ (w_1 : Wt), ∃ (b : Bool), [O.ptr (49 : Nat) [O.d
  (D.v (Value.int IntKind.i64 w.s)), O.d (D.v (Value.bool w.p)), O.d (D.v (Value.int IntKind.i64 w.n))], O.d (D.v (Value.bool (decide (e = (3 : Int)))))] = [O.ptr (49 : Nat) [O.d (D.v
  (Value.int IntKind.i64 w_1.s)), O.d (D.v (Value.bool w_1.p)), O.d (D.v (Value.int IntKind.i64 w_1.n))], O.d (D.v (Value.bool b))] ∧ (-1 : Int) ≤ w_1.n ∧ w_1.n ≤ (3 : Int)) ∧
  (((heardF (Wt.mk w.s w.p w.n) (decide (e = (3 : Int)))).fst.s = (stepF (Wt.mk w.s w.p w.n) e).fst.s ∧ (heardF (Wt.mk w.s w.p w.n) (decide (e = (3 : Int)))).fst.p = (stepF (Wt.mk w.s
  w.p w.n) e).fst.p ∧ (heardF (Wt.mk w.s w.p w.n) (decide (e = (3 : Int)))).fst.n = (stepF (Wt.mk w.s w.p w.n) e).fst.n ∧ (heardF (Wt.mk w.s w.p w.n) (decide (e = (3 : Int)))).snd.ask
  = (stepF (Wt.mk w.s w.p w.n) e).snd.fst.ask ∧ (heardF (Wt.mk w.s w.p w.n) (decide (e = (3 : Int)))).snd.fail = (stepF (Wt.mk w.s w.p w.n) e).snd.fst.fail ∧ (heardF (Wt.mk w.s w.p
  w.n) (decide (e = (3 : Int)))).snd.back = (stepF (Wt.mk w.s w.p w.n) e).snd.fst.back ∧ (heardF (Wt.mk w.s w.p w.n) (decide (e = (3 : Int)))).snd.close = (stepF (Wt.mk w.s w.p w.n)
  e).snd.fst.close ∧ (heardF (Wt.mk w.s w.p w.n) (decide (e = (3 : Int)))).snd.tri = (stepF (Wt.mk w.s w.p w.n) e).snd.fst.tri ∧ (heardF (Wt.mk w.s w.p w.n) (decide (e = (3 :
  Int)))).snd.wind = (stepF (Wt.mk w.s w.p w.n) e).snd.fst.wind ∧ (0 : Int) = (stepF (Wt.mk w.s w.p w.n) e).snd.snd ∧ (true && true) = true) ∧ True) ∧ True) ∧ (decide (e = (3 : Int))
  = false → True ∧ (decide (e = (5 : Int)) = true → (∃ (w_1 : Wt), [O.ptr (49 : Nat) [O.d (D.v (Value.int IntKind.i64 w.s)), O.d (D.v (Value.bool w.p)), O.d (D.v (Value.int
  IntKind.i64 w.n))]] = [O.ptr (49 : Nat) [O.d (D.v (Value.int IntKind.i64 w_1.s)), O.d (D.v (Value.bool w_1.p)), O.d (D.v (Value.int IntKind.i64 w_1.n))]]) ∧ (((alarmF (Wt.mk w.s w.p
  w.n)).fst.s = (stepF (Wt.mk w.s w.p w.n) e).fst.s ∧ (alarmF (Wt.mk w.s w.p w.n)).fst.p = (stepF (Wt.mk w.s w.p w.n) e).fst.p ∧ (alarmF (Wt.mk w.s w.p w.n)).fst.n = (stepF (Wt.mk w.s
  w.p w.n) e).fst.n ∧ (alarmF (Wt.mk w.s w.p w.n)).snd.ask = (stepF (Wt.mk w.s w.p w.n) e).snd.fst.ask ∧ (alarmF (Wt.mk w.s w.p w.n)).snd.fail = (stepF (Wt.mk w.s w.p w.n)
  e).snd.fst.fail ∧ (alarmF (Wt.mk w.s w.p w.n)).snd.back = (stepF (Wt.mk w.s w.p w.n) e).snd.fst.back ∧ (alarmF (Wt.mk w.s w.p w.n)).snd.close = (stepF (Wt.mk w.s w.p w.n)
  e).snd.fst.close ∧ (alarmF (Wt.mk w.s w.p w.n)).snd.tri = (stepF (Wt.mk w.s w.p w.n) e).snd.fst.tri ∧ (alarmF (Wt.mk w.s w.p w.n)).snd.wind = (stepF (Wt.mk w.s w.p w.n)
  e).snd.fst.wind ∧ (0 : Int) = (stepF (Wt.mk w.s w.p w.n) e).snd.snd ∧ (true && true) = true) ∧ True) ∧ True) ∧ (decide (e = (5 : Int)) = false → ((w.s = (stepF (Wt.mk w.s w.p w.n)
  e).fst.s ∧ w.p = (stepF (Wt.mk w.s w.p w.n) e).fst.p ∧ w.n = (stepF (Wt.mk w.s w.p w.n) e).fst.n ∧ false = (stepF (Wt.mk w.s w.p w.n) e).snd.fst.ask ∧ false = (stepF (Wt.mk w.s w.p
  w.n) e).snd.fst.fail ∧ false = (stepF (Wt.mk w.s w.p w.n) e).snd.fst.back ∧ false = (stepF (Wt.mk w.s w.p w.n) e).snd.fst.close ∧ false = (stepF (Wt.mk w.s w.p w.n) e).snd.fst.tri ∧
  false = (stepF (Wt.mk w.s w.p w.n) e).snd.fst.wind ∧ (0 : Int) = (stepF (Wt.mk w.s w.p w.n) e).snd.snd ∧ (true && true) = true) ∧ True) ∧ True))) ∧ (decide (e = (3 : Int)) = false →
  True ∧ (decide (e = (4 : Int)) = true → True ∧ (∃ (w_1 : Wt), ∃ (b : Bool), [O.ptr (49 : Nat) [O.d (D.v (Value.int IntKind.i64 w.s)), O.d (D.v (Value.bool w.p)), O.d (D.v (Value.int
  IntKind.i64 w.n))], O.d (D.v (Value.bool (decide (e = (3 : Int)))))] = [O.ptr (49 : Nat) [O.d (D.v (Value.int IntKind.i64 w_1.s)), O.d (D.v (Value.bool w_1.p)), O.d (D.v (Value.int
  IntKind.i64 w_1.n))], O.d (D.v (Value.bool b))] ∧ (-1 : Int) ≤ w_1.n ∧ w_1.n ≤ (3 : Int)) ∧ (((heardF (Wt.mk w.s w.p w.n) (decide (e = (3 : Int)))).fst.s = (stepF (Wt.mk w.s w.p
  w.n) e).fst.s ∧ (heardF (Wt.mk w.s w.p w.n) (decide (e = (3 : Int)))).fst.p = (stepF (Wt.mk w.s w.p w.n) e).fst.p ∧ (heardF (Wt.mk w.s w.p w.n) (decide (e = (3 : Int)))).fst.n =
  (stepF (Wt.mk w.s w.p w.n) e).fst.n ∧ (heardF (Wt.mk w.s w.p w.n) (decide (e = (3 : Int)))).snd.ask = (stepF (Wt.mk w.s w.p w.n) e).snd.fst.ask ∧ (heardF (Wt.mk w.s w.p w.n) (decide
  (e = (3 : Int)))).snd.fail = (stepF (Wt.mk w.s w.p w.n) e).snd.fst.fail ∧ (heardF (Wt.mk w.s w.p w.n) (decide (e = (3 : Int)))).snd.back = (stepF (Wt.mk w.s w.p w.n) e).snd.fst.back
  ∧ (heardF (Wt.mk w.s w.p w.n) (decide (e = (3 : Int)))).snd.close = (stepF (Wt.mk w.s w.p w.n) e).snd.fst.close ∧ (heardF (Wt.mk w.s w.p w.n) (decide (e = (3 : Int)))).snd.tri =
  (stepF (Wt.mk w.s w.p w.n) e).snd.fst.tri ∧ (heardF (Wt.mk w.s w.p w.n) (decide (e = (3 : Int)))).snd.wind = (stepF (Wt.mk w.s w.p w.n) e).snd.fst.wind ∧ (0 : Int) = (stepF (Wt.mk
  w.s w.p w.n) e).snd.snd ∧ (true && true) = true) ∧ True) ∧ True) ∧ (decide (e = (4 : Int)) = false → True ∧ (decide (e = (5 : Int)) = true → (∃ (w_1 : Wt), [O.ptr (49 : Nat) [O.d
  (D.v (Value.int IntKind.i64 w.s)), O.d (D.v (Value.bool w.p)), O.d (D.v (Value.int IntKind.i64 w.n))]] = [O.ptr (49 : Nat) [O.d (D.v (Value.int IntKind.i64 w_1.s)), O.d (D.v
  (Value.bool w_1.p)), O.d (D.v (Value.int IntKind.i64 w_1.n))]]) ∧ (((alarmF (Wt.mk w.s w.p w.n)).fst.s = (stepF (Wt.mk w.s w.p w.n) e).fst.s ∧ (alarmF (Wt.mk w.s w.p w.n)).fst.p =
  (stepF (Wt.mk w.s w.p w.n) e).fst.p ∧ (alarmF (Wt.mk w.s w.p w.n)).fst.n = (stepF (Wt.mk w.s w.p w.n) e).fst.n ∧ (alarmF (Wt.mk w.s w.p w.n)).snd.ask = (stepF (Wt.mk w.s w.p w.n)
  e).snd.fst.ask ∧ (alarmF (Wt.mk w.s w.p w.n)).snd.fail = (stepF (Wt.mk w.s w.p w.n) e).snd.fst.fail ∧ (alarmF (Wt.mk w.s w.p w.n)).snd.back = (stepF (Wt.mk w.s w.p w.n)
  e).snd.fst.back ∧ (alarmF (Wt.mk w.s w.p w.n)).snd.close = (stepF (Wt.mk w.s w.p w.n) e).snd.fst.close ∧ (alarmF (Wt.mk w.s w.p w.n)).snd.tri = (stepF (Wt.mk w.s w.p w.n)
  e).snd.fst.tri ∧ (alarmF (Wt.mk w.s w.p w.n)).snd.wind = (stepF (Wt.mk w.s w.p w.n) e).snd.fst.wind ∧ (0 : Int) = (stepF (Wt.mk w.s w.p w.n) e).snd.snd ∧ (true && true) = true) ∧
  True) ∧ True) ∧ (decide (e = (5 : Int)) = false → ((w.s = (stepF (Wt.mk w.s w.p w.n) e).fst.s ∧ w.p = (stepF (Wt.mk w.s w.p w.n) e).fst.p ∧ w.n = (stepF (Wt.mk w.s w.p w.n) e).fst.n
  ∧ false = (stepF (Wt.mk w.s w.p w.n) e).snd.fst.ask ∧ false = (stepF (Wt.mk w.s w.p w.n) e).snd.fst.fail ∧ false = (stepF (Wt.mk w.s w.p w.n) e).snd.fst.back ∧ false = (stepF (Wt.mk
  w.s w.p w.n) e).snd.fst.close ∧ false = (stepF (Wt.mk w.s w.p w.n) e).snd.fst.tri ∧ false = (stepF (Wt.mk w.s w.p w.n) e).snd.fst.wind ∧ (0 : Int) = (stepF (Wt.mk w.s w.p w.n)
  e).snd.snd ∧ (true && true) = true) ∧ True) ∧ True)))))) := by
  rintro ⟨s, p, n⟩ e
  have hw : (s < 0 ∨ s > 4 ∨ n < -1 ∨ n > 3 ∨ e < 1 ∨ e > 5) → stepF ⟨s, p, n⟩ e = (⟨0, false, 0⟩, noDo, 1) := fun hr => by simp [stepF, hr]
  by_cases c1 : s < 0
  · simp [hw (by omega), noDo, c1]
  by_cases c2 : 4 < s
  · simp [hw (by omega), noDo, c1, c2]
  by_cases c3 : n < -1
  · simp [hw (by omega), noDo, c1, c2, c3]
  by_cases c4 : 3 < n
  · simp [hw (by omega), noDo, c1, c2, c3, c4]
  by_cases c5 : e < 1
  · simp [hw (by omega), noDo, c1, c2, c3, c4, c5]
  by_cases c6 : 5 < e
  · simp [hw (by omega), noDo, c1, c2, c3, c4, c5, c6]
  have hr : ¬ (s < 0 ∨ s > 4 ∨ n < -1 ∨ n > 3 ∨ e < 1 ∨ e > 5) := by omega
  have h3 : -1 ≤ n ∧ n ≤ 3 := by omega
  have ex : ∃ w : Wt, s = w.s ∧ p = w.p ∧ n = w.n := ⟨⟨s, p, n⟩, rfl, rfl, rfl⟩
  have ex2 : ∃ w : Wt, (s = w.s ∧ p = w.p ∧ n = w.n) ∧ -1 ≤ w.n ∧ w.n ≤ 3 := ⟨⟨s, p, n⟩, ⟨rfl, rfl, rfl⟩, h3⟩
  have hs : stepF ⟨s, p, n⟩ e = if e = 1 then ((openedF ⟨s, p, n⟩).1, (openedF ⟨s, p, n⟩).2, 0) else if e = 2 then ((brokenF ⟨s, p, n⟩).1, (brokenF ⟨s, p, n⟩).2, 0)
    else if e = 3 then ((heardF ⟨s, p, n⟩ true).1, (heardF ⟨s, p, n⟩ true).2, 0) else if e = 4 then ((heardF ⟨s, p, n⟩ false).1, (heardF ⟨s, p, n⟩ false).2, 0)
    else ((alarmF ⟨s, p, n⟩).1, (alarmF ⟨s, p, n⟩).2, 0) := by
    simp only [stepF]; rw [if_neg hr]
  have he : e = 1 ∨ e = 2 ∨ e = 3 ∨ e = 4 ∨ e = 5 := by omega
  simp only [hs, c1, c2, c3, c4, decide_false]
  clear hs hr hw
  rcases he with rfl | rfl | rfl | rfl | rfl <;> simp [ex, ex2]
theorem ok19 : FnIs Try.prog 19 stepC := by
  refine fnIs (C := ctrs c2) (by kernel_rfl) c2_ok Try.func19 (code := code19) (by kernel_rfl) (by kernel_rfl) ?_
  rintro a ⟨w, e, rfl⟩
  exact ⟨anns [], kcast (vc19 w e) (by kernel_rfl)⟩

theorem c3_ok : COk Try.prog (ctrs c3) := cok_cons ok19 cok_nil

noncomputable def code21 : Code := match Try.f21.body with | some c => c | none => .skip
theorem vc21 : (∃ (w : Wt), ∃ (e : Int), [O.agg [O.d (D.v (Value.int IntKind.i64 (0 : Int))), O.d (D.v (Value.bool false)), O.d (D.v (Value.int IntKind.i64 (0 : Int)))], O.d (D.v (Value.int
  IntKind.i64 (1 : Int)))] = [O.agg [O.d (D.v (Value.int IntKind.i64 w.s)), O.d (D.v (Value.bool w.p)), O.d (D.v (Value.int IntKind.i64 w.n))], O.d (D.v (Value.int IntKind.i64 e))]) ∧
  True ∧ (allT [decide ((stepF (Wt.mk (0 : Int) false (0 : Int)) (1 : Int)).snd.snd = (0 : Int))] → SV.p (0 : Nat) (0 : Nat) = SV.p (0 : Nat) (0 : Nat)) ∧ (allT [decide ((stepF (Wt.mk
  (0 : Int) false (0 : Int)) (1 : Int)).snd.snd = (0 : Int))] → [decide ((stepF (Wt.mk (0 : Int) false (0 : Int)) (1 : Int)).snd.snd = (0 : Int))] = [decide ((stepF (Wt.mk (0 : Int)
  false (0 : Int)) (1 : Int)).snd.snd = (0 : Int))] ∧ SV.c (Value.int IntKind.i64 (stepF (Wt.mk (0 : Int) false (0 : Int)) (1 : Int)).fst.s) = SV.c (Value.int IntKind.i64 (stepF
  (Wt.mk (0 : Int) false (0 : Int)) (1 : Int)).fst.s)) ∧ (allT [decide ((stepF (Wt.mk (0 : Int) false (0 : Int)) (1 : Int)).snd.snd = (0 : Int))] → [decide ((stepF (Wt.mk (0 : Int)
  false (0 : Int)) (1 : Int)).snd.snd = (0 : Int))] = [decide ((stepF (Wt.mk (0 : Int) false (0 : Int)) (1 : Int)).snd.snd = (0 : Int))] ∧ True ∧ SV.c (Value.bool (decide ((stepF
  (Wt.mk (0 : Int) false (0 : Int)) (1 : Int)).fst.s = (1 : Int)))) = SV.c (Value.bool (decide ((stepF (Wt.mk (0 : Int) false (0 : Int)) (1 : Int)).fst.s = (1 : Int))))) ∧ [decide
  ((stepF (Wt.mk (0 : Int) false (0 : Int)) (1 : Int)).snd.snd = (0 : Int))] = [decide ((stepF (Wt.mk (0 : Int) false (0 : Int)) (1 : Int)).snd.snd = (0 : Int))] ∧ (allT [decide
  ((stepF (Wt.mk (0 : Int) false (0 : Int)) (1 : Int)).snd.snd = (0 : Int)) && decide ((stepF (Wt.mk (0 : Int) false (0 : Int)) (1 : Int)).fst.s = (1 : Int))] → SV.p (1 : Nat) (5 :
  Nat) = SV.p (1 : Nat) (5 : Nat)) ∧ (allT [decide ((stepF (Wt.mk (0 : Int) false (0 : Int)) (1 : Int)).snd.snd = (0 : Int)) && decide ((stepF (Wt.mk (0 : Int) false (0 : Int)) (1 :
  Int)).fst.s = (1 : Int))] → [decide ((stepF (Wt.mk (0 : Int) false (0 : Int)) (1 : Int)).snd.snd = (0 : Int)) && decide ((stepF (Wt.mk (0 : Int) false (0 : Int)) (1 : Int)).fst.s =
  (1 : Int))] = [decide ((stepF (Wt.mk (0 : Int) false (0 : Int)) (1 : Int)).snd.snd = (0 : Int)) && decide ((stepF (Wt.mk (0 : Int) false (0 : Int)) (1 : Int)).fst.s = (1 : Int))] ∧
  SV.c (Value.bool (stepF (Wt.mk (0 : Int) false (0 : Int)) (1 : Int)).snd.fst.wind) = SV.c (Value.bool (stepF (Wt.mk (0 : Int) false (0 : Int)) (1 : Int)).snd.fst.wind)) ∧ [decide
  ((stepF (Wt.mk (0 : Int) false (0 : Int)) (1 : Int)).snd.snd = (0 : Int)) && decide ((stepF (Wt.mk (0 : Int) false (0 : Int)) (1 : Int)).fst.s = (1 : Int))] = [decide ((stepF (Wt.mk
  (0 : Int) false (0 : Int)) (1 : Int)).snd.snd = (0 : Int)) && decide ((stepF (Wt.mk (0 : Int) false (0 : Int)) (1 : Int)).fst.s = (1 : Int))] ∧ (decide ((stepF (Wt.mk (0 : Int)
  false (0 : Int)) (1 : Int)).snd.snd = (0 : Int)) && decide ((stepF (Wt.mk (0 : Int) false (0 : Int)) (1 : Int)).fst.s = (1 : Int)) && (stepF (Wt.mk (0 : Int) false (0 : Int)) (1 :
  Int)).snd.fst.wind) = true ∧ (true && true) = true := by
  simp [stepF, openedF]
  exact ⟨⟨0, false, 0⟩, rfl, rfl, rfl⟩
theorem ok21 : FnIs Try.prog 21 answersC := by
  refine fnIs (C := ctrs c3) (by kernel_rfl) c3_ok Try.func21 (code := code21) (by kernel_rfl) (by kernel_rfl) ?_
  rintro a rfl
  exact ⟨anns [], kcast (vc21) (by kernel_rfl)⟩

end Go.YR
