/- The watch's own functions, run. -/
import Derived.Test.YtgnfpcjndhnglaaRows
import Derived.Test.YtgnfpcjndhnglaaA0
namespace Go.YR
open Go.Proofs
open Go.Y Go.YM Go.RowKit
theorem c0_ok : COk Try.prog (ctrs c0) := cok_nil
noncomputable def code40 : Code := match Try.f40.body with | some c => c | none => .skip
theorem vc40 : ∀ (w : Wt), True ∧ (decide (w.s = (4 : Int)) = true → (3 : Int) = (goneF (Wt.mk w.s w.p w.n)).s ∧ false = (goneF (Wt.mk w.s w.p w.n)).p ∧ (0 : Int) = (goneF (Wt.mk w.s w.p w.n)).n ∧
  (!false && true && true) = true) ∧ (decide (w.s = (4 : Int)) = false → (3 : Int) = (goneF (Wt.mk w.s w.p w.n)).s ∧ false = (goneF (Wt.mk w.s w.p w.n)).p ∧ w.n = (goneF (Wt.mk w.s
  w.p w.n)).n ∧ (!false && true && true) = true) := by
  rintro ⟨s, p, n⟩
  by_cases h : s = 4 <;> simp [goneF, h]
theorem ok40 : FnIs Try.prog 40 goneC := by
  refine fnIs (C := ctrs c0) (by kernel_rfl) c0_ok Try.func40 (code := code40) (by kernel_rfl) (by kernel_rfl) ?_
  rintro a ⟨w, rfl⟩
  exact ⟨anns [], kcast (vc40 w) (by kernel_rfl)⟩

theorem c1_ok : COk Try.prog (ctrs c1) := cok_cons ok40 cok_nil

noncomputable def code32 : Code := match Try.f32.body with | some c => c | none => .skip
theorem vc32 : ∀ (w : Wt), True ∧ (decide (w.s = (0 : Int)) = true → (1 : Int) = (openedF (Wt.mk w.s w.p w.n)).fst.s ∧ false = (openedF (Wt.mk w.s w.p w.n)).fst.p ∧ w.n = (openedF (Wt.mk w.s w.p
  w.n)).fst.n ∧ false = (openedF (Wt.mk w.s w.p w.n)).snd.ask ∧ false = (openedF (Wt.mk w.s w.p w.n)).snd.fail ∧ false = (openedF (Wt.mk w.s w.p w.n)).snd.back ∧ false = (openedF
  (Wt.mk w.s w.p w.n)).snd.close ∧ false = (openedF (Wt.mk w.s w.p w.n)).snd.tri ∧ true = (openedF (Wt.mk w.s w.p w.n)).snd.wind ∧ (!false && true && true) = true) ∧ (decide (w.s = (0
  : Int)) = false → True ∧ (decide (w.s = (3 : Int)) = true → (4 : Int) = (openedF (Wt.mk w.s w.p w.n)).fst.s ∧ true = (openedF (Wt.mk w.s w.p w.n)).fst.p ∧ (0 : Int) = (openedF
  (Wt.mk w.s w.p w.n)).fst.n ∧ true = (openedF (Wt.mk w.s w.p w.n)).snd.ask ∧ false = (openedF (Wt.mk w.s w.p w.n)).snd.fail ∧ false = (openedF (Wt.mk w.s w.p w.n)).snd.back ∧ false =
  (openedF (Wt.mk w.s w.p w.n)).snd.close ∧ false = (openedF (Wt.mk w.s w.p w.n)).snd.tri ∧ true = (openedF (Wt.mk w.s w.p w.n)).snd.wind ∧ (!false && true && true) = true) ∧ (decide
  (w.s = (3 : Int)) = false → w.s = (openedF (Wt.mk w.s w.p w.n)).fst.s ∧ w.p = (openedF (Wt.mk w.s w.p w.n)).fst.p ∧ w.n = (openedF (Wt.mk w.s w.p w.n)).fst.n ∧ false = (openedF
  (Wt.mk w.s w.p w.n)).snd.ask ∧ false = (openedF (Wt.mk w.s w.p w.n)).snd.fail ∧ false = (openedF (Wt.mk w.s w.p w.n)).snd.back ∧ false = (openedF (Wt.mk w.s w.p w.n)).snd.close ∧
  false = (openedF (Wt.mk w.s w.p w.n)).snd.tri ∧ false = (openedF (Wt.mk w.s w.p w.n)).snd.wind ∧ (!false && true && true) = true)) := by
  rintro ⟨s, p, n⟩
  by_cases h0 : s = 0
  · simp [openedF, h0]
  · by_cases h3 : s = 3 <;> simp [openedF, noDo, h0, h3]
theorem ok32 : FnIs Try.prog 32 (methC openedF) := by
  refine fnIs (C := ctrs c1) (by kernel_rfl) c1_ok Try.func32 (code := code32) (by kernel_rfl) (by kernel_rfl) ?_
  rintro a ⟨w, rfl⟩
  exact ⟨anns [], kcast (vc32 w) (by kernel_rfl)⟩

noncomputable def code33 : Code := match Try.f33.body with | some c => c | none => .skip
theorem vc33 : ∀ (w : Wt), True ∧ (allT [!decide (w.s = (0 : Int))] → SV.c (Value.int IntKind.i64 w.s) = SV.c (Value.int IntKind.i64 w.s)) ∧ (allT [!decide (w.s = (0 : Int))] → [!decide (w.s = (0
  : Int))] = [!decide (w.s = (0 : Int))] ∧ True ∧ SV.c (Value.bool (decide (w.s = (3 : Int)))) = SV.c (Value.bool (decide (w.s = (3 : Int))))) ∧ [!decide (w.s = (0 : Int))] = [!decide
  (w.s = (0 : Int))] ∧ ((decide (w.s = (0 : Int)) || decide (w.s = (3 : Int))) = true → w.s = (brokenF (Wt.mk w.s w.p w.n)).fst.s ∧ w.p = (brokenF (Wt.mk w.s w.p w.n)).fst.p ∧ w.n =
  (brokenF (Wt.mk w.s w.p w.n)).fst.n ∧ false = (brokenF (Wt.mk w.s w.p w.n)).snd.ask ∧ false = (brokenF (Wt.mk w.s w.p w.n)).snd.fail ∧ false = (brokenF (Wt.mk w.s w.p w.n)).snd.back
  ∧ false = (brokenF (Wt.mk w.s w.p w.n)).snd.close ∧ false = (brokenF (Wt.mk w.s w.p w.n)).snd.tri ∧ false = (brokenF (Wt.mk w.s w.p w.n)).snd.wind ∧ (!false && true && true) = true)
  ∧ ((decide (w.s = (0 : Int)) || decide (w.s = (3 : Int))) = false → (∃ (w_1 : Wt), [O.ptr (49 : Nat) [O.d (D.v (Value.int IntKind.i64 w.s)), O.d (D.v (Value.bool w.p)), O.d (D.v
  (Value.int IntKind.i64 w.n))]] = [O.ptr (49 : Nat) [O.d (D.v (Value.int IntKind.i64 w_1.s)), O.d (D.v (Value.bool w_1.p)), O.d (D.v (Value.int IntKind.i64 w_1.n))]]) ∧ True ∧ (goneF
  (Wt.mk w.s w.p w.n)).s = (brokenF (Wt.mk w.s w.p w.n)).fst.s ∧ (goneF (Wt.mk w.s w.p w.n)).p = (brokenF (Wt.mk w.s w.p w.n)).fst.p ∧ (goneF (Wt.mk w.s w.p w.n)).n = (brokenF (Wt.mk
  w.s w.p w.n)).fst.n ∧ false = (brokenF (Wt.mk w.s w.p w.n)).snd.ask ∧ decide (w.s = (1 : Int)) = (brokenF (Wt.mk w.s w.p w.n)).snd.fail ∧ false = (brokenF (Wt.mk w.s w.p
  w.n)).snd.back ∧ false = (brokenF (Wt.mk w.s w.p w.n)).snd.close ∧ false = (brokenF (Wt.mk w.s w.p w.n)).snd.tri ∧ true = (brokenF (Wt.mk w.s w.p w.n)).snd.wind ∧ (!false && true &&
  true) = true) := by
  rintro ⟨s, p, n⟩
  have ex : ∃ w : Wt, s = w.s ∧ p = w.p ∧ n = w.n := ⟨⟨s, p, n⟩, rfl, rfl, rfl⟩
  by_cases h0 : s = 0
  · simp [brokenF, noDo, h0]
  · by_cases h3 : s = 3
    · simp [brokenF, noDo, h3]
    · simp [brokenF, h0, h3, ex]
theorem ok33 : FnIs Try.prog 33 (methC brokenF) := by
  refine fnIs (C := ctrs c1) (by kernel_rfl) c1_ok Try.func33 (code := code33) (by kernel_rfl) (by kernel_rfl) ?_
  rintro a ⟨w, rfl⟩
  exact ⟨anns [], kcast (vc33 w) (by kernel_rfl)⟩

noncomputable def code34 : Code := match Try.f34.body with | some c => c | none => .skip
theorem vc34 : ∀ (w : Wt) (b : Bool), (-1 : Int) ≤ w.n ∧ w.n ≤ (3 : Int) → True ∧ (decide (w.s = (1 : Int)) = true → (allT [w.p] → SV.c (Value.bool b) = SV.c (Value.bool b)) ∧ (allT [w.p] → [w.p]
  = [w.p] ∧ SV.c (Value.bool !b) = SV.c (Value.bool !b)) ∧ [w.p] = [w.p] ∧ w.s = (heardF (Wt.mk w.s w.p w.n) b).fst.s ∧ (w.p && !b) = (heardF (Wt.mk w.s w.p w.n) b).fst.p ∧ w.n =
  (heardF (Wt.mk w.s w.p w.n) b).fst.n ∧ false = (heardF (Wt.mk w.s w.p w.n) b).snd.ask ∧ false = (heardF (Wt.mk w.s w.p w.n) b).snd.fail ∧ false = (heardF (Wt.mk w.s w.p w.n)
  b).snd.back ∧ false = (heardF (Wt.mk w.s w.p w.n) b).snd.close ∧ false = (heardF (Wt.mk w.s w.p w.n) b).snd.tri ∧ true = (heardF (Wt.mk w.s w.p w.n) b).snd.wind ∧ (!false && true &&
  true) = true) ∧ (decide (w.s = (1 : Int)) = false → True ∧ (decide (w.s = (2 : Int)) = true → (allT [w.p] → SV.c (Value.bool b) = SV.c (Value.bool b)) ∧ (allT [w.p] → [w.p] = [w.p]
  ∧ SV.c (Value.bool !b) = SV.c (Value.bool !b)) ∧ [w.p] = [w.p] ∧ (1 : Int) = (heardF (Wt.mk w.s w.p w.n) b).fst.s ∧ (w.p && !b) = (heardF (Wt.mk w.s w.p w.n) b).fst.p ∧ w.n =
  (heardF (Wt.mk w.s w.p w.n) b).fst.n ∧ false = (heardF (Wt.mk w.s w.p w.n) b).snd.ask ∧ false = (heardF (Wt.mk w.s w.p w.n) b).snd.fail ∧ true = (heardF (Wt.mk w.s w.p w.n)
  b).snd.back ∧ false = (heardF (Wt.mk w.s w.p w.n) b).snd.close ∧ false = (heardF (Wt.mk w.s w.p w.n) b).snd.tri ∧ true = (heardF (Wt.mk w.s w.p w.n) b).snd.wind ∧ (!false && true &&
  true) = true) ∧ (decide (w.s = (2 : Int)) = false → True ∧ (decide (w.s = (4 : Int)) = true → ((!b) = true → w.s = (heardF (Wt.mk w.s w.p w.n) b).fst.s ∧ w.p = (heardF (Wt.mk w.s
  w.p w.n) b).fst.p ∧ w.n = (heardF (Wt.mk w.s w.p w.n) b).fst.n ∧ false = (heardF (Wt.mk w.s w.p w.n) b).snd.ask ∧ false = (heardF (Wt.mk w.s w.p w.n) b).snd.fail ∧ false = (heardF
  (Wt.mk w.s w.p w.n) b).snd.back ∧ false = (heardF (Wt.mk w.s w.p w.n) b).snd.close ∧ false = (heardF (Wt.mk w.s w.p w.n) b).snd.tri ∧ false = (heardF (Wt.mk w.s w.p w.n) b).snd.wind
  ∧ (!false && true && true) = true) ∧ ((!b) = false → True ∧ (decide (w.n < (2 : Int)) = true → True ∧ w.s = (heardF (Wt.mk w.s w.p w.n) b).fst.s ∧ false = (heardF (Wt.mk w.s w.p
  w.n) b).fst.p ∧ IntKind.i64.wrap (w.n + (1 : Int)) = (heardF (Wt.mk w.s w.p w.n) b).fst.n ∧ false = (heardF (Wt.mk w.s w.p w.n) b).snd.ask ∧ false = (heardF (Wt.mk w.s w.p w.n)
  b).snd.fail ∧ false = (heardF (Wt.mk w.s w.p w.n) b).snd.back ∧ false = (heardF (Wt.mk w.s w.p w.n) b).snd.close ∧ false = (heardF (Wt.mk w.s w.p w.n) b).snd.tri ∧ false = (heardF
  (Wt.mk w.s w.p w.n) b).snd.wind ∧ (!false && true && true) = true) ∧ (decide (w.n < (2 : Int)) = false → (1 : Int) = (heardF (Wt.mk w.s w.p w.n) b).fst.s ∧ false = (heardF (Wt.mk
  w.s w.p w.n) b).fst.p ∧ (0 : Int) = (heardF (Wt.mk w.s w.p w.n) b).fst.n ∧ false = (heardF (Wt.mk w.s w.p w.n) b).snd.ask ∧ false = (heardF (Wt.mk w.s w.p w.n) b).snd.fail ∧ true =
  (heardF (Wt.mk w.s w.p w.n) b).snd.back ∧ false = (heardF (Wt.mk w.s w.p w.n) b).snd.close ∧ false = (heardF (Wt.mk w.s w.p w.n) b).snd.tri ∧ true = (heardF (Wt.mk w.s w.p w.n)
  b).snd.wind ∧ (!false && true && true) = true))) ∧ (decide (w.s = (4 : Int)) = false → w.s = (heardF (Wt.mk w.s w.p w.n) b).fst.s ∧ w.p = (heardF (Wt.mk w.s w.p w.n) b).fst.p ∧ w.n
  = (heardF (Wt.mk w.s w.p w.n) b).fst.n ∧ false = (heardF (Wt.mk w.s w.p w.n) b).snd.ask ∧ false = (heardF (Wt.mk w.s w.p w.n) b).snd.fail ∧ false = (heardF (Wt.mk w.s w.p w.n)
  b).snd.back ∧ false = (heardF (Wt.mk w.s w.p w.n) b).snd.close ∧ false = (heardF (Wt.mk w.s w.p w.n) b).snd.tri ∧ false = (heardF (Wt.mk w.s w.p w.n) b).snd.wind ∧ (!false && true
  && true) = true))) := by
  rintro ⟨s, p, n⟩ b ⟨hn1, hn2⟩
  have hw : IntKind.i64.wrap (n + 1) = n + 1 := IntWalk.i64_in _ (by simp at hn1 hn2; omega)
  by_cases h1 : s = 1
  · cases p <;> cases b <;> simp [allT, heardF, h1]
  · by_cases h2 : s = 2
    · cases p <;> cases b <;> simp [allT, heardF, h2]
    · by_cases h4 : s = 4
      · by_cases hn : n < 2
        · cases b <;> simp [allT, heardF, noDo, h4, hn, hw]
        · cases b <;> simp [allT, heardF, noDo, h4, hn]
      · simp [allT, heardF, noDo, h1, h2, h4]
theorem ok34 : FnIs Try.prog 34 heardC := by
  refine fnIs (C := ctrs c1) (by kernel_rfl) c1_ok Try.func34 (code := code34) (by kernel_rfl) (by kernel_rfl) ?_
  rintro a ⟨w, b, rfl, h⟩
  exact ⟨anns [], kcast (vc34 w b h) (by kernel_rfl)⟩

noncomputable def code35 : Code := match Try.f35.body with | some c => c | none => .skip
theorem vc35 : ∀ (w : Wt), True ∧ (allT [!decide (w.s = (0 : Int))] → SV.p (0 : Nat) (0 : Nat) = SV.p (0 : Nat) (0 : Nat)) ∧ (allT [!decide (w.s = (0 : Int))] → [!decide (w.s = (0 : Int))] =
  [!decide (w.s = (0 : Int))] ∧ SV.p (0 : Nat) (0 : Nat) = SV.p (0 : Nat) (0 : Nat)) ∧ (allT [!decide (w.s = (0 : Int))] → [!decide (w.s = (0 : Int))] = [!decide (w.s = (0 : Int))] ∧
  SV.p (0 : Nat) (0 : Nat) = SV.p (0 : Nat) (0 : Nat)) ∧ (allT [!decide (w.s = (0 : Int))] → [!decide (w.s = (0 : Int))] = [!decide (w.s = (0 : Int))] ∧ SV.c (Value.int IntKind.i64
  w.s) = SV.c (Value.int IntKind.i64 w.s)) ∧ (allT [!decide (w.s = (0 : Int))] → [!decide (w.s = (0 : Int))] = [!decide (w.s = (0 : Int))] ∧ True ∧ SV.c (Value.bool (decide (w.s = (3
  : Int)))) = SV.c (Value.bool (decide (w.s = (3 : Int))))) ∧ [!decide (w.s = (0 : Int))] = [!decide (w.s = (0 : Int))] ∧ ((decide (w.s = (0 : Int)) || decide (w.s = (3 : Int))) =
  true → w.s = (alarmF (Wt.mk w.s w.p w.n)).fst.s ∧ w.p = (alarmF (Wt.mk w.s w.p w.n)).fst.p ∧ w.n = (alarmF (Wt.mk w.s w.p w.n)).fst.n ∧ false = (alarmF (Wt.mk w.s w.p w.n)).snd.ask
  ∧ false = (alarmF (Wt.mk w.s w.p w.n)).snd.fail ∧ false = (alarmF (Wt.mk w.s w.p w.n)).snd.back ∧ false = (alarmF (Wt.mk w.s w.p w.n)).snd.close ∧ true = (alarmF (Wt.mk w.s w.p
  w.n)).snd.tri ∧ true = (alarmF (Wt.mk w.s w.p w.n)).snd.wind ∧ (!false && true && true) = true) ∧ ((decide (w.s = (0 : Int)) || decide (w.s = (3 : Int))) = false → True ∧ (allT
  [!decide (w.s = (2 : Int))] → SV.p (0 : Nat) (0 : Nat) = SV.p (0 : Nat) (0 : Nat)) ∧ (allT [!decide (w.s = (2 : Int))] → [!decide (w.s = (2 : Int))] = [!decide (w.s = (2 : Int))] ∧
  SV.p (0 : Nat) (0 : Nat) = SV.p (0 : Nat) (0 : Nat)) ∧ (allT [!decide (w.s = (2 : Int))] → [!decide (w.s = (2 : Int))] = [!decide (w.s = (2 : Int))] ∧ SV.p (0 : Nat) (0 : Nat) =
  SV.p (0 : Nat) (0 : Nat)) ∧ (allT [!decide (w.s = (2 : Int))] → [!decide (w.s = (2 : Int))] = [!decide (w.s = (2 : Int))] ∧ SV.c (Value.int IntKind.i64 w.s) = SV.c (Value.int
  IntKind.i64 w.s)) ∧ (allT [!decide (w.s = (2 : Int))] → [!decide (w.s = (2 : Int))] = [!decide (w.s = (2 : Int))] ∧ True ∧ SV.c (Value.bool (decide (w.s = (4 : Int)))) = SV.c
  (Value.bool (decide (w.s = (4 : Int))))) ∧ (allT [!decide (w.s = (2 : Int))] → [!decide (w.s = (2 : Int))] = [!decide (w.s = (2 : Int))] ∧ SV.c (Value.bool (decide (w.s = (4 :
  Int)))) = SV.c (Value.bool (decide (w.s = (4 : Int))))) ∧ (allT [decide (w.s = (4 : Int)), !decide (w.s = (2 : Int))] → SV.p (0 : Nat) (0 : Nat) = SV.p (0 : Nat) (0 : Nat)) ∧ (allT
  [decide (w.s = (4 : Int)), !decide (w.s = (2 : Int))] → [decide (w.s = (4 : Int)), !decide (w.s = (2 : Int))] = [decide (w.s = (4 : Int)), !decide (w.s = (2 : Int))] ∧ SV.p (0 :
  Nat) (0 : Nat) = SV.p (0 : Nat) (0 : Nat)) ∧ (allT [decide (w.s = (4 : Int)), !decide (w.s = (2 : Int))] → [decide (w.s = (4 : Int)), !decide (w.s = (2 : Int))] = [decide (w.s = (4
  : Int)), !decide (w.s = (2 : Int))] ∧ SV.p (0 : Nat) (1 : Nat) = SV.p (0 : Nat) (1 : Nat)) ∧ (allT [decide (w.s = (4 : Int)), !decide (w.s = (2 : Int))] → [decide (w.s = (4 : Int)),
  !decide (w.s = (2 : Int))] = [decide (w.s = (4 : Int)), !decide (w.s = (2 : Int))] ∧ SV.c (Value.bool w.p) = SV.c (Value.bool w.p)) ∧ (allT [!decide (w.s = (2 : Int))] → [!decide
  (w.s = (2 : Int))] = [!decide (w.s = (2 : Int))] ∧ [decide (w.s = (4 : Int)), !decide (w.s = (2 : Int))] = [decide (w.s = (4 : Int)), !decide (w.s = (2 : Int))] ∧ SV.c (Value.bool
  (decide (w.s = (4 : Int)) && w.p)) = SV.c (Value.bool (decide (w.s = (4 : Int)) && w.p))) ∧ (allT [!decide (w.s = (2 : Int))] → [!decide (w.s = (2 : Int))] = [!decide (w.s = (2 :
  Int))] ∧ SV.c (Value.bool (decide (w.s = (4 : Int)) && w.p)) = SV.c (Value.bool (decide (w.s = (4 : Int)) && w.p))) ∧ (allT [decide (w.s = (4 : Int)) && w.p, !decide (w.s = (2 :
  Int))] → SV.p (0 : Nat) (0 : Nat) = SV.p (0 : Nat) (0 : Nat)) ∧ (allT [decide (w.s = (4 : Int)) && w.p, !decide (w.s = (2 : Int))] → [decide (w.s = (4 : Int)) && w.p, !decide (w.s =
  (2 : Int))] = [decide (w.s = (4 : Int)) && w.p, !decide (w.s = (2 : Int))] ∧ SV.p (0 : Nat) (0 : Nat) = SV.p (0 : Nat) (0 : Nat)) ∧ (allT [decide (w.s = (4 : Int)) && w.p, !decide
  (w.s = (2 : Int))] → [decide (w.s = (4 : Int)) && w.p, !decide (w.s = (2 : Int))] = [decide (w.s = (4 : Int)) && w.p, !decide (w.s = (2 : Int))] ∧ SV.p (0 : Nat) (2 : Nat) = SV.p (0
  : Nat) (2 : Nat)) ∧ (allT [decide (w.s = (4 : Int)) && w.p, !decide (w.s = (2 : Int))] → [decide (w.s = (4 : Int)) && w.p, !decide (w.s = (2 : Int))] = [decide (w.s = (4 : Int)) &&
  w.p, !decide (w.s = (2 : Int))] ∧ SV.c (Value.int IntKind.i64 w.n) = SV.c (Value.int IntKind.i64 w.n)) ∧ (allT [decide (w.s = (4 : Int)) && w.p, !decide (w.s = (2 : Int))] → [decide
  (w.s = (4 : Int)) && w.p, !decide (w.s = (2 : Int))] = [decide (w.s = (4 : Int)) && w.p, !decide (w.s = (2 : Int))] ∧ True ∧ SV.c (Value.bool (decide (w.n < (0 : Int)))) = SV.c
  (Value.bool (decide (w.n < (0 : Int))))) ∧ (allT [!decide (w.s = (2 : Int))] → [!decide (w.s = (2 : Int))] = [!decide (w.s = (2 : Int))] ∧ [decide (w.s = (4 : Int)) && w.p, !decide
  (w.s = (2 : Int))] = [decide (w.s = (4 : Int)) && w.p, !decide (w.s = (2 : Int))] ∧ SV.c (Value.bool (decide (w.s = (4 : Int)) && w.p && decide (w.n < (0 : Int)))) = SV.c
  (Value.bool (decide (w.s = (4 : Int)) && w.p && decide (w.n < (0 : Int))))) ∧ [!decide (w.s = (2 : Int))] = [!decide (w.s = (2 : Int))] ∧ ((decide (w.s = (2 : Int)) || decide (w.s =
  (4 : Int)) && w.p && decide (w.n < (0 : Int))) = true → (∃ (w_1 : Wt), [O.ptr (49 : Nat) [O.d (D.v (Value.int IntKind.i64 w.s)), O.d (D.v (Value.bool w.p)), O.d (D.v (Value.int
  IntKind.i64 w.n))]] = [O.ptr (49 : Nat) [O.d (D.v (Value.int IntKind.i64 w_1.s)), O.d (D.v (Value.bool w_1.p)), O.d (D.v (Value.int IntKind.i64 w_1.n))]]) ∧ (goneF (Wt.mk w.s w.p
  w.n)).s = (alarmF (Wt.mk w.s w.p w.n)).fst.s ∧ (goneF (Wt.mk w.s w.p w.n)).p = (alarmF (Wt.mk w.s w.p w.n)).fst.p ∧ (goneF (Wt.mk w.s w.p w.n)).n = (alarmF (Wt.mk w.s w.p
  w.n)).fst.n ∧ false = (alarmF (Wt.mk w.s w.p w.n)).snd.ask ∧ false = (alarmF (Wt.mk w.s w.p w.n)).snd.fail ∧ false = (alarmF (Wt.mk w.s w.p w.n)).snd.back ∧ true = (alarmF (Wt.mk
  w.s w.p w.n)).snd.close ∧ false = (alarmF (Wt.mk w.s w.p w.n)).snd.tri ∧ true = (alarmF (Wt.mk w.s w.p w.n)).snd.wind ∧ (!false && true && true) = true) ∧ ((decide (w.s = (2 : Int))
  || decide (w.s = (4 : Int)) && w.p && decide (w.n < (0 : Int))) = false → ((!w.p) = true → w.s = (alarmF (Wt.mk w.s w.p w.n)).fst.s ∧ true = (alarmF (Wt.mk w.s w.p w.n)).fst.p ∧ w.n
  = (alarmF (Wt.mk w.s w.p w.n)).fst.n ∧ true = (alarmF (Wt.mk w.s w.p w.n)).snd.ask ∧ false = (alarmF (Wt.mk w.s w.p w.n)).snd.fail ∧ false = (alarmF (Wt.mk w.s w.p w.n)).snd.back ∧
  false = (alarmF (Wt.mk w.s w.p w.n)).snd.close ∧ false = (alarmF (Wt.mk w.s w.p w.n)).snd.tri ∧ true = (alarmF (Wt.mk w.s w.p w.n)).snd.wind ∧ (!false && true && true) = true) ∧
  ((!w.p) = false → True ∧ (decide (w.s = (1 : Int)) = true → (2 : Int) = (alarmF (Wt.mk w.s w.p w.n)).fst.s ∧ w.p = (alarmF (Wt.mk w.s w.p w.n)).fst.p ∧ w.n = (alarmF (Wt.mk w.s w.p
  w.n)).fst.n ∧ false = (alarmF (Wt.mk w.s w.p w.n)).snd.ask ∧ true = (alarmF (Wt.mk w.s w.p w.n)).snd.fail ∧ false = (alarmF (Wt.mk w.s w.p w.n)).snd.back ∧ false = (alarmF (Wt.mk
  w.s w.p w.n)).snd.close ∧ false = (alarmF (Wt.mk w.s w.p w.n)).snd.tri ∧ true = (alarmF (Wt.mk w.s w.p w.n)).snd.wind ∧ (!false && true && true) = true) ∧ (decide (w.s = (1 : Int))
  = false → w.s = (alarmF (Wt.mk w.s w.p w.n)).fst.s ∧ w.p = (alarmF (Wt.mk w.s w.p w.n)).fst.p ∧ (-1 : Int) = (alarmF (Wt.mk w.s w.p w.n)).fst.n ∧ false = (alarmF (Wt.mk w.s w.p
  w.n)).snd.ask ∧ false = (alarmF (Wt.mk w.s w.p w.n)).snd.fail ∧ false = (alarmF (Wt.mk w.s w.p w.n)).snd.back ∧ false = (alarmF (Wt.mk w.s w.p w.n)).snd.close ∧ false = (alarmF
  (Wt.mk w.s w.p w.n)).snd.tri ∧ true = (alarmF (Wt.mk w.s w.p w.n)).snd.wind ∧ (!false && true && true) = true)))) := by
  rintro ⟨s, p, n⟩
  by_cases h0 : s = 0
  · simp [alarmF, h0]
  · by_cases h3 : s = 3
    · simp [alarmF, h3]
    · by_cases h2 : s = 2
      · simp [alarmF, h2]
        exact ⟨⟨2, p, n⟩, rfl, rfl, rfl⟩
      · by_cases h1 : s = 1
        · cases p <;> simp [alarmF, h1]
        · by_cases h4 : s = 4
          · by_cases hn : n < 0
            · cases p <;> simp [alarmF, h4, hn]
              exact ⟨⟨4, true, n⟩, rfl, rfl, rfl⟩
            · cases p <;> simp [alarmF, h4, hn]
          · cases p <;> simp [alarmF, h0, h1, h2, h3, h4]
theorem ok35 : FnIs Try.prog 35 (methC alarmF) := by
  refine fnIs (C := ctrs c1) (by kernel_rfl) c1_ok Try.func35 (code := code35) (by kernel_rfl) (by kernel_rfl) ?_
  rintro a ⟨w, rfl⟩
  exact ⟨anns [], kcast (vc35 w) (by kernel_rfl)⟩

end Go.YR
