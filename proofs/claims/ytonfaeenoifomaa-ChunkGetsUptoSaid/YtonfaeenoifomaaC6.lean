/- The statements of chunks that are written and read: walks -/
import Derived.Test.YtonfaeenoifomaaRows
import Derived.Test.YtonfaeenoifomaaC5
namespace Go.ZR
open Go.Proofs
open Go.Z Go.ZM Go.RowKit
set_option maxRecDepth 100000
noncomputable def code3 : Code := match Try.f3.body with | some c => c | none => .skip
set_option maxHeartbeats 4000000 in
theorem vc3 : ∀ (l : List ChR), okChs l → (∃ (l_1 : List ChR), [O.d (D.recs (3 : Nat) l.length (chCell l))] = [O.d (D.recs (3 : Nat) l_1.length (chCell l_1))] ∧ okChs l_1) ∧
  (∃ (l_1 : List ChR), [O.d (D.recs (3 : Nat) (chsOf (D.recs (3 : Nat) l.length (chCell l))).length (chCell (chsOf (D.recs (3 : Nat) l.length (chCell l)))))] = [O.d (D.recs (3 : Nat) l_1.length (chCell l_1))] ∧
  okChs l_1) ∧ (∃ (l_1 : List ChR), [O.d (D.recs (3 : Nat) l.length (chCell l))] = [O.d (D.recs (3 : Nat) l_1.length (chCell l_1))] ∧ okChs l_1) ∧ ([] : List O) = [] ∧
  True ∧ sw (decide ((bstr (putR (chsOf (D.recs (3 : Nat) (chsOf (D.recs (3 : Nat) l.length (chCell l))).length (chCell (chsOf (D.recs (3 : Nat) l.length (chCell l))))))).fst).data.toList = (bstr (putR (chsOf (D.recs (3 : Nat) l.length (chCell l)))).fst).data.toList)) (True ∧
  decide ((putR (chsOf (D.recs (3 : Nat) (chsOf (D.recs (3 : Nat) l.length (chCell l))).length (chCell (chsOf (D.recs (3 : Nat) l.length (chCell l))))))).snd = (putR (chsOf (D.recs (3 : Nat) l.length (chCell l)))).snd) = true ∧
  (true && true) = true) (false = true ∧ (true && true) = true) := by
  simp only [↓sw_iff, ↓Bool.and_eq_true, ↓decide_eq_true_eq, ↓decide_eq_false_iff_not, and_true, implies_true, chsOf_chs, not_true_eq_false, false_implies]
  intro l h
  exact ⟨⟨l, rfl, h⟩, ⟨l, rfl, h⟩, ⟨l, rfl, h⟩⟩
set_option maxRecDepth 100000 in
theorem ok3 : FnIs Try.prog 3 putLawC := by
  refine fnIs (C := (ctrs c11)) (by kernel_rfl) c11_ok Try.func3 (code := code3) (by kernel_rfl) (by kernel_rfl) ?_
  rintro a ⟨l, rfl, h⟩
  exact ⟨anns [] [3], kcast (vc3 l h) (by kernel_rfl)⟩

noncomputable def code5 : Code := match Try.f5.body with | some c => c | none => .skip
set_option maxHeartbeats 4000000 in
theorem vc5 : ∀ (b : List Int), sm b.length → okB b → True ∧ ((0 : Nat) + b.length) * Try.prog.types[(5 : Nat)].bytes ≤ (140737488355328 : Nat) ∧ (∃ (b_1 : List Int), [O.d (D.ints IntKind.u8 ([] ++ b))] = [O.d (D.ints IntKind.u8 b_1)] ∧
  sm b_1.length ∧ okB b_1) ∧ (∃ (b_1 : List Int), [O.d (D.ints IntKind.u8 b)] = [O.d (D.ints IntKind.u8 b_1)] ∧ sm b_1.length ∧ okB b_1) ∧ ([] : List O) = [] ∧ (∃ (l : List ChR), ∃ (m : List ChR), ∃ (A : D), ∃ (B : D), [O.d (D.recs (3 : Nat) (getR (vl (D.ints IntKind.u8 ([] ++ b)))).fst.length (chCell (getR (vl (D.ints IntKind.u8 ([] ++ b)))).fst)), O.d (D.recs (3 : Nat) (getR (vl (D.ints IntKind.u8 b))).fst.length (chCell (getR (vl (D.ints IntKind.u8 b))).fst))] = [O.d A, O.d B] ∧
  okChs l ∧ okChs m ∧ asCh A l ∧ asCh B m) ∧ sw (sameChs (chsOf (D.recs (3 : Nat) (getR (vl (D.ints IntKind.u8 ([] ++ b)))).fst.length (chCell (getR (vl (D.ints IntKind.u8 ([] ++ b)))).fst))) (chsOf (D.recs (3 : Nat) (getR (vl (D.ints IntKind.u8 b))).fst.length (chCell (getR (vl (D.ints IntKind.u8 b))).fst)))) (True ∧
  decide ((getR (vl (D.ints IntKind.u8 ([] ++ b)))).snd = (getR (vl (D.ints IntKind.u8 b))).snd) = true ∧ (true && true) = true) (false = true ∧ (true && true) = true) := by
  simp only [↓sw_iff, ↓Bool.and_eq_true, ↓decide_eq_true_eq, true_and, and_true, implies_true, vl, Nat.zero_add, List.nil_append, Nat.mul_one, bytes5, chsOf_chs]
  intro b h hb
  have h' := h
  unfold sm at h'
  refine ⟨by omega, ⟨b, rfl, h, hb⟩, ⟨b, rfl, h, hb⟩, ⟨_, _, _, _, rfl, getR_ok hb, getR_ok hb, asCh_self _, asCh_self _⟩, fun e => ?_⟩
  rw [sames_refl] at e; cases e
set_option maxRecDepth 100000 in
theorem ok5 : FnIs Try.prog 5 getLawC := by
  refine fnIs (C := (ctrs c11)) (by kernel_rfl) c11_ok Try.func5 (code := code5) (by kernel_rfl) (by kernel_rfl) ?_
  rintro a ⟨b, rfl, h, hb⟩
  exact ⟨anns [] [3], kcast (vc5 b h hb) (by kernel_rfl)⟩

noncomputable def code6 : Code := match Try.f6.body with | some c => c | none => .skip
set_option maxHeartbeats 4000000 in
theorem vc6 : ∀ (l m : List ChR) (b : List Int), let y := vl (D.ints IntKind.u8 ([] ++ b)); okChs l → okChs m → okCB l → okCB m → sm b.length → okB b → (∃ (l_1 : List ChR), [O.d (D.recs (3 : Nat) l.length (chCell l))] = [O.d (D.recs (3 : Nat) l_1.length (chCell l_1))] ∧
  okChs l_1) ∧ (∃ (l_1 : List ChR), [O.d (D.recs (3 : Nat) (chsOf (D.recs (3 : Nat) l.length (chCell l))).length (chCell (chsOf (D.recs (3 : Nat) l.length (chCell l)))))] = [O.d (D.recs (3 : Nat) l_1.length (chCell l_1))] ∧
  okChs l_1) ∧ (∃ (l_1 : List ChR), [O.d (D.recs (3 : Nat) m.length (chCell m))] = [O.d (D.recs (3 : Nat) l_1.length (chCell l_1))] ∧ okChs l_1) ∧ (∃ (l_1 : List ChR), [O.d (D.recs (3 : Nat) (chsOf (D.recs (3 : Nat) m.length (chCell m))).length (chCell (chsOf (D.recs (3 : Nat) m.length (chCell m)))))] = [O.d (D.recs (3 : Nat) l_1.length (chCell l_1))] ∧
  okChs l_1) ∧ ([] : List O) = [] ∧ True ∧ sw (decide ((putR (chsOf (D.recs (3 : Nat) (chsOf (D.recs (3 : Nat) l.length (chCell l))).length (chCell (chsOf (D.recs (3 : Nat) l.length (chCell l))))))).snd = (0 : Int))) ((∃ (b_1 : List Int), [O.d (D.ints IntKind.u8 (putR (chsOf (D.recs (3 : Nat) (chsOf (D.recs (3 : Nat) l.length (chCell l))).length (chCell (chsOf (D.recs (3 : Nat) l.length (chCell l))))))).fst)] = [O.d (D.ints IntKind.u8 b_1)] ∧
  sm b_1.length ∧ okB b_1) ∧ True ∧ sw (!decide ((getR (vl (D.ints IntKind.u8 (putR (chsOf (D.recs (3 : Nat) (chsOf (D.recs (3 : Nat) l.length (chCell l))).length (chCell (chsOf (D.recs (3 : Nat) l.length (chCell l))))))).fst))).snd = (0 : Int))) (false = true ∧
  (true && true) = true) ((∃ (l_1 : List ChR), ∃ (m_1 : List ChR), ∃ (A : D), ∃ (B : D), [O.d (D.recs (3 : Nat) (getR (vl (D.ints IntKind.u8 (putR (chsOf (D.recs (3 : Nat) (chsOf (D.recs (3 : Nat) l.length (chCell l))).length (chCell (chsOf (D.recs (3 : Nat) l.length (chCell l))))))).fst))).fst.length (chCell (getR (vl (D.ints IntKind.u8 (putR (chsOf (D.recs (3 : Nat) (chsOf (D.recs (3 : Nat) l.length (chCell l))).length (chCell (chsOf (D.recs (3 : Nat) l.length (chCell l))))))).fst))).fst)), O.d (D.recs (3 : Nat) l.length (chCell l))] = [O.d A, O.d B] ∧
  okChs l_1 ∧ okChs m_1 ∧ asCh A l_1 ∧ asCh B m_1) ∧ sw (!sameChs (chsOf (D.recs (3 : Nat) (getR (vl (D.ints IntKind.u8 (putR (chsOf (D.recs (3 : Nat) (chsOf (D.recs (3 : Nat) l.length (chCell l))).length (chCell (chsOf (D.recs (3 : Nat) l.length (chCell l))))))).fst))).fst.length (chCell (getR (vl (D.ints IntKind.u8 (putR (chsOf (D.recs (3 : Nat) (chsOf (D.recs (3 : Nat) l.length (chCell l))).length (chCell (chsOf (D.recs (3 : Nat) l.length (chCell l))))))).fst))).fst))) (chsOf (D.recs (3 : Nat) l.length (chCell l)))) (false = true ∧
  (true && true) = true) (True ∧ sw (decide ((putR (chsOf (D.recs (3 : Nat) (chsOf (D.recs (3 : Nat) l.length (chCell l))).length (chCell (chsOf (D.recs (3 : Nat) l.length (chCell l))))))).snd = (0 : Int))) (True ∧
  sw (decide ((putR (chsOf (D.recs (3 : Nat) (chsOf (D.recs (3 : Nat) m.length (chCell m))).length (chCell (chsOf (D.recs (3 : Nat) m.length (chCell m))))))).snd = (0 : Int))) (True ∧
  True ∧ sw (decide (IntKind.i64.wrap ((↑l.length : Int) + (↑m.length : Int)) ≤ (32 : Int))) (True ∧ True ∧ sw (decide (IntKind.i64.wrap ((↑(putR (chsOf (D.recs (3 : Nat) (chsOf (D.recs (3 : Nat) l.length (chCell l))).length (chCell (chsOf (D.recs (3 : Nat) l.length (chCell l))))))).fst.length : Int) + (↑(putR (chsOf (D.recs (3 : Nat) (chsOf (D.recs (3 : Nat) m.length (chCell m))).length (chCell (chsOf (D.recs (3 : Nat) m.length (chCell m))))))).fst.length : Int)) ≤ (4096 : Int))) (True ∧
  ((0 : Nat) + (putR (chsOf (D.recs (3 : Nat) (chsOf (D.recs (3 : Nat) l.length (chCell l))).length (chCell (chsOf (D.recs (3 : Nat) l.length (chCell l))))))).fst.length) * Try.prog.types[(5 : Nat)].bytes ≤ (140737488355328 : Nat) ∧
  True ∧ (([] ++ (putR (chsOf (D.recs (3 : Nat) (chsOf (D.recs (3 : Nat) l.length (chCell l))).length (chCell (chsOf (D.recs (3 : Nat) l.length (chCell l))))))).fst).length + (putR (chsOf (D.recs (3 : Nat) (chsOf (D.recs (3 : Nat) m.length (chCell m))).length (chCell (chsOf (D.recs (3 : Nat) m.length (chCell m))))))).fst.length) * Try.prog.types[(5 : Nat)].bytes ≤ (140737488355328 : Nat) ∧
  (∃ (b_1 : List Int), [O.d (D.ints IntKind.u8 ([] ++ (putR (chsOf (D.recs (3 : Nat) (chsOf (D.recs (3 : Nat) l.length (chCell l))).length (chCell (chsOf (D.recs (3 : Nat) l.length (chCell l))))))).fst ++ (putR (chsOf (D.recs (3 : Nat) (chsOf (D.recs (3 : Nat) m.length (chCell m))).length (chCell (chsOf (D.recs (3 : Nat) m.length (chCell m))))))).fst))] = [O.d (D.ints IntKind.u8 b_1)] ∧
  sm b_1.length ∧ okB b_1) ∧ True ∧ sw (!decide ((getR (vl (D.ints IntKind.u8 ([] ++ (putR (chsOf (D.recs (3 : Nat) (chsOf (D.recs (3 : Nat) l.length (chCell l))).length (chCell (chsOf (D.recs (3 : Nat) l.length (chCell l))))))).fst ++ (putR (chsOf (D.recs (3 : Nat) (chsOf (D.recs (3 : Nat) m.length (chCell m))).length (chCell (chsOf (D.recs (3 : Nat) m.length (chCell m))))))).fst)))).snd = (0 : Int))) (false = true ∧
  (true && true) = true) ((∃ (l_1 : List ChR), [O.d (D.recs (3 : Nat) l.length (chCell l))] = [O.d (D.recs (3 : Nat) l_1.length (chCell l_1))] ∧ okChs l_1) ∧
  True ∧ ((chsOf (D.recs (3 : Nat) l.length (chCell l))).length + m.length) * Try.prog.types[(45 : Nat)].bytes ≤ (140737488355328 : Nat) ∧ (∃ (l_1 : List ChR), ∃ (m_1 : List ChR), ∃ (A : D), ∃ (B : D), [O.d (D.recs (3 : Nat) (getR (vl (D.ints IntKind.u8 ([] ++ (putR (chsOf (D.recs (3 : Nat) (chsOf (D.recs (3 : Nat) l.length (chCell l))).length (chCell (chsOf (D.recs (3 : Nat) l.length (chCell l))))))).fst ++ (putR (chsOf (D.recs (3 : Nat) (chsOf (D.recs (3 : Nat) m.length (chCell m))).length (chCell (chsOf (D.recs (3 : Nat) m.length (chCell m))))))).fst)))).fst.length (chCell (getR (vl (D.ints IntKind.u8 ([] ++ (putR (chsOf (D.recs (3 : Nat) (chsOf (D.recs (3 : Nat) l.length (chCell l))).length (chCell (chsOf (D.recs (3 : Nat) l.length (chCell l))))))).fst ++ (putR (chsOf (D.recs (3 : Nat) (chsOf (D.recs (3 : Nat) m.length (chCell m))).length (chCell (chsOf (D.recs (3 : Nat) m.length (chCell m))))))).fst)))).fst)), O.d (D.recs (3 : Nat) ((chsOf (D.recs (3 : Nat) l.length (chCell l))).length + m.length) fun (i j : Nat) => bif i.blt (chsOf (D.recs (3 : Nat) l.length (chCell l))).length then chCell (chsOf (D.recs (3 : Nat) l.length (chCell l))) i j else chCell m (i - (chsOf (D.recs (3 : Nat) l.length (chCell l))).length) j)] = [O.d A, O.d B] ∧
  okChs l_1 ∧ okChs m_1 ∧ asCh A l_1 ∧ asCh B m_1) ∧ sw (!sameChs (chsOf (D.recs (3 : Nat) (getR (vl (D.ints IntKind.u8 ([] ++ (putR (chsOf (D.recs (3 : Nat) (chsOf (D.recs (3 : Nat) l.length (chCell l))).length (chCell (chsOf (D.recs (3 : Nat) l.length (chCell l))))))).fst ++ (putR (chsOf (D.recs (3 : Nat) (chsOf (D.recs (3 : Nat) m.length (chCell m))).length (chCell (chsOf (D.recs (3 : Nat) m.length (chCell m))))))).fst)))).fst.length (chCell (getR (vl (D.ints IntKind.u8 ([] ++ (putR (chsOf (D.recs (3 : Nat) (chsOf (D.recs (3 : Nat) l.length (chCell l))).length (chCell (chsOf (D.recs (3 : Nat) l.length (chCell l))))))).fst ++ (putR (chsOf (D.recs (3 : Nat) (chsOf (D.recs (3 : Nat) m.length (chCell m))).length (chCell (chsOf (D.recs (3 : Nat) m.length (chCell m))))))).fst)))).fst))) (chsOf (D.recs (3 : Nat) ((chsOf (D.recs (3 : Nat) l.length (chCell l))).length + m.length) fun (i j : Nat) => bif i.blt (chsOf (D.recs (3 : Nat) l.length (chCell l))).length then chCell (chsOf (D.recs (3 : Nat) l.length (chCell l))) i j else chCell m (i - (chsOf (D.recs (3 : Nat) l.length (chCell l))).length) j))) (false = true ∧
  (true && true) = true) (True ∧ ((0 : Nat) + b.length) * Try.prog.types[(5 : Nat)].bytes ≤ (140737488355328 : Nat) ∧ (∃ (b_1 : List Int), [O.d (D.ints IntKind.u8 ([] ++ b))] = [O.d (D.ints IntKind.u8 b_1)] ∧
  sm b_1.length ∧ okB b_1) ∧ True ∧ sw (!decide ((getR y).snd = (0 : Int))) (True ∧ decide ((↑(getR y).fst.length : Int) = (0 : Int)) = true ∧ (true && true) = true) ((∃ (l_1 : List ChR), [O.d (D.recs (3 : Nat) (getR y).fst.length (chCell (getR y).fst))] = [O.d (D.recs (3 : Nat) l_1.length (chCell l_1))] ∧
  okChs l_1) ∧ True ∧ sw (decide ((putR (chsOf (D.recs (3 : Nat) (getR y).fst.length (chCell (getR y).fst)))).snd = (0 : Int))) (True ∧ decide ((bstr (putR (chsOf (D.recs (3 : Nat) (getR y).fst.length (chCell (getR y).fst)))).fst).data.toList = (bstr b).data.toList) = true ∧
  (true && true) = true) (false = true ∧ (true && true) = true))))) (True ∧ ((0 : Nat) + b.length) * Try.prog.types[(5 : Nat)].bytes ≤ (140737488355328 : Nat) ∧
  (∃ (b_1 : List Int), [O.d (D.ints IntKind.u8 ([] ++ b))] = [O.d (D.ints IntKind.u8 b_1)] ∧ sm b_1.length ∧ okB b_1) ∧ True ∧ sw (!decide ((getR y).snd = (0 : Int))) (True ∧
  decide ((↑(getR y).fst.length : Int) = (0 : Int)) = true ∧ (true && true) = true) ((∃ (l_1 : List ChR), [O.d (D.recs (3 : Nat) (getR y).fst.length (chCell (getR y).fst))] = [O.d (D.recs (3 : Nat) l_1.length (chCell l_1))] ∧
  okChs l_1) ∧ True ∧ sw (decide ((putR (chsOf (D.recs (3 : Nat) (getR y).fst.length (chCell (getR y).fst)))).snd = (0 : Int))) (True ∧ decide ((bstr (putR (chsOf (D.recs (3 : Nat) (getR y).fst.length (chCell (getR y).fst)))).fst).data.toList = (bstr b).data.toList) = true ∧
  (true && true) = true) (false = true ∧ (true && true) = true)))) (True ∧ ((0 : Nat) + b.length) * Try.prog.types[(5 : Nat)].bytes ≤ (140737488355328 : Nat) ∧
  (∃ (b_1 : List Int), [O.d (D.ints IntKind.u8 ([] ++ b))] = [O.d (D.ints IntKind.u8 b_1)] ∧ sm b_1.length ∧ okB b_1) ∧ True ∧ sw (!decide ((getR y).snd = (0 : Int))) (True ∧
  decide ((↑(getR y).fst.length : Int) = (0 : Int)) = true ∧ (true && true) = true) ((∃ (l_1 : List ChR), [O.d (D.recs (3 : Nat) (getR y).fst.length (chCell (getR y).fst))] = [O.d (D.recs (3 : Nat) l_1.length (chCell l_1))] ∧
  okChs l_1) ∧ True ∧ sw (decide ((putR (chsOf (D.recs (3 : Nat) (getR y).fst.length (chCell (getR y).fst)))).snd = (0 : Int))) (True ∧ decide ((bstr (putR (chsOf (D.recs (3 : Nat) (getR y).fst.length (chCell (getR y).fst)))).fst).data.toList = (bstr b).data.toList) = true ∧
  (true && true) = true) (false = true ∧ (true && true) = true)))) (True ∧ ((0 : Nat) + b.length) * Try.prog.types[(5 : Nat)].bytes ≤ (140737488355328 : Nat) ∧
  (∃ (b_1 : List Int), [O.d (D.ints IntKind.u8 ([] ++ b))] = [O.d (D.ints IntKind.u8 b_1)] ∧ sm b_1.length ∧ okB b_1) ∧ True ∧ sw (!decide ((getR y).snd = (0 : Int))) (True ∧
  decide ((↑(getR y).fst.length : Int) = (0 : Int)) = true ∧ (true && true) = true) ((∃ (l_1 : List ChR), [O.d (D.recs (3 : Nat) (getR y).fst.length (chCell (getR y).fst))] = [O.d (D.recs (3 : Nat) l_1.length (chCell l_1))] ∧
  okChs l_1) ∧ True ∧ sw (decide ((putR (chsOf (D.recs (3 : Nat) (getR y).fst.length (chCell (getR y).fst)))).snd = (0 : Int))) (True ∧ decide ((bstr (putR (chsOf (D.recs (3 : Nat) (getR y).fst.length (chCell (getR y).fst)))).fst).data.toList = (bstr b).data.toList) = true ∧
  (true && true) = true) (false = true ∧ (true && true) = true)))) (True ∧ ((0 : Nat) + b.length) * Try.prog.types[(5 : Nat)].bytes ≤ (140737488355328 : Nat) ∧
  (∃ (b_1 : List Int), [O.d (D.ints IntKind.u8 ([] ++ b))] = [O.d (D.ints IntKind.u8 b_1)] ∧ sm b_1.length ∧ okB b_1) ∧ True ∧ sw (!decide ((getR y).snd = (0 : Int))) (True ∧
  decide ((↑(getR y).fst.length : Int) = (0 : Int)) = true ∧ (true && true) = true) ((∃ (l_1 : List ChR), [O.d (D.recs (3 : Nat) (getR y).fst.length (chCell (getR y).fst))] = [O.d (D.recs (3 : Nat) l_1.length (chCell l_1))] ∧
  okChs l_1) ∧ True ∧ sw (decide ((putR (chsOf (D.recs (3 : Nat) (getR y).fst.length (chCell (getR y).fst)))).snd = (0 : Int))) (True ∧ decide ((bstr (putR (chsOf (D.recs (3 : Nat) (getR y).fst.length (chCell (getR y).fst)))).fst).data.toList = (bstr b).data.toList) = true ∧
  (true && true) = true) (false = true ∧ (true && true) = true)))))) (True ∧ sw (decide ((putR (chsOf (D.recs (3 : Nat) (chsOf (D.recs (3 : Nat) l.length (chCell l))).length (chCell (chsOf (D.recs (3 : Nat) l.length (chCell l))))))).snd = (0 : Int))) (True ∧
  sw (decide ((putR (chsOf (D.recs (3 : Nat) (chsOf (D.recs (3 : Nat) m.length (chCell m))).length (chCell (chsOf (D.recs (3 : Nat) m.length (chCell m))))))).snd = (0 : Int))) (True ∧
  True ∧ sw (decide (IntKind.i64.wrap ((↑l.length : Int) + (↑m.length : Int)) ≤ (32 : Int))) (True ∧ True ∧ sw (decide (IntKind.i64.wrap ((↑(putR (chsOf (D.recs (3 : Nat) (chsOf (D.recs (3 : Nat) l.length (chCell l))).length (chCell (chsOf (D.recs (3 : Nat) l.length (chCell l))))))).fst.length : Int) + (↑(putR (chsOf (D.recs (3 : Nat) (chsOf (D.recs (3 : Nat) m.length (chCell m))).length (chCell (chsOf (D.recs (3 : Nat) m.length (chCell m))))))).fst.length : Int)) ≤ (4096 : Int))) (True ∧
  ((0 : Nat) + (putR (chsOf (D.recs (3 : Nat) (chsOf (D.recs (3 : Nat) l.length (chCell l))).length (chCell (chsOf (D.recs (3 : Nat) l.length (chCell l))))))).fst.length) * Try.prog.types[(5 : Nat)].bytes ≤ (140737488355328 : Nat) ∧
  True ∧ (([] ++ (putR (chsOf (D.recs (3 : Nat) (chsOf (D.recs (3 : Nat) l.length (chCell l))).length (chCell (chsOf (D.recs (3 : Nat) l.length (chCell l))))))).fst).length + (putR (chsOf (D.recs (3 : Nat) (chsOf (D.recs (3 : Nat) m.length (chCell m))).length (chCell (chsOf (D.recs (3 : Nat) m.length (chCell m))))))).fst.length) * Try.prog.types[(5 : Nat)].bytes ≤ (140737488355328 : Nat) ∧
  (∃ (b_1 : List Int), [O.d (D.ints IntKind.u8 ([] ++ (putR (chsOf (D.recs (3 : Nat) (chsOf (D.recs (3 : Nat) l.length (chCell l))).length (chCell (chsOf (D.recs (3 : Nat) l.length (chCell l))))))).fst ++ (putR (chsOf (D.recs (3 : Nat) (chsOf (D.recs (3 : Nat) m.length (chCell m))).length (chCell (chsOf (D.recs (3 : Nat) m.length (chCell m))))))).fst))] = [O.d (D.ints IntKind.u8 b_1)] ∧
  sm b_1.length ∧ okB b_1) ∧ True ∧ sw (!decide ((getR (vl (D.ints IntKind.u8 ([] ++ (putR (chsOf (D.recs (3 : Nat) (chsOf (D.recs (3 : Nat) l.length (chCell l))).length (chCell (chsOf (D.recs (3 : Nat) l.length (chCell l))))))).fst ++ (putR (chsOf (D.recs (3 : Nat) (chsOf (D.recs (3 : Nat) m.length (chCell m))).length (chCell (chsOf (D.recs (3 : Nat) m.length (chCell m))))))).fst)))).snd = (0 : Int))) (false = true ∧
  (true && true) = true) ((∃ (l_1 : List ChR), [O.d (D.recs (3 : Nat) l.length (chCell l))] = [O.d (D.recs (3 : Nat) l_1.length (chCell l_1))] ∧ okChs l_1) ∧
  True ∧ ((chsOf (D.recs (3 : Nat) l.length (chCell l))).length + m.length) * Try.prog.types[(45 : Nat)].bytes ≤ (140737488355328 : Nat) ∧ (∃ (l_1 : List ChR), ∃ (m_1 : List ChR), ∃ (A : D), ∃ (B : D), [O.d (D.recs (3 : Nat) (getR (vl (D.ints IntKind.u8 ([] ++ (putR (chsOf (D.recs (3 : Nat) (chsOf (D.recs (3 : Nat) l.length (chCell l))).length (chCell (chsOf (D.recs (3 : Nat) l.length (chCell l))))))).fst ++ (putR (chsOf (D.recs (3 : Nat) (chsOf (D.recs (3 : Nat) m.length (chCell m))).length (chCell (chsOf (D.recs (3 : Nat) m.length (chCell m))))))).fst)))).fst.length (chCell (getR (vl (D.ints IntKind.u8 ([] ++ (putR (chsOf (D.recs (3 : Nat) (chsOf (D.recs (3 : Nat) l.length (chCell l))).length (chCell (chsOf (D.recs (3 : Nat) l.length (chCell l))))))).fst ++ (putR (chsOf (D.recs (3 : Nat) (chsOf (D.recs (3 : Nat) m.length (chCell m))).length (chCell (chsOf (D.recs (3 : Nat) m.length (chCell m))))))).fst)))).fst)), O.d (D.recs (3 : Nat) ((chsOf (D.recs (3 : Nat) l.length (chCell l))).length + m.length) fun (i j : Nat) => bif i.blt (chsOf (D.recs (3 : Nat) l.length (chCell l))).length then chCell (chsOf (D.recs (3 : Nat) l.length (chCell l))) i j else chCell m (i - (chsOf (D.recs (3 : Nat) l.length (chCell l))).length) j)] = [O.d A, O.d B] ∧
  okChs l_1 ∧ okChs m_1 ∧ asCh A l_1 ∧ asCh B m_1) ∧ sw (!sameChs (chsOf (D.recs (3 : Nat) (getR (vl (D.ints IntKind.u8 ([] ++ (putR (chsOf (D.recs (3 : Nat) (chsOf (D.recs (3 : Nat) l.length (chCell l))).length (chCell (chsOf (D.recs (3 : Nat) l.length (chCell l))))))).fst ++ (putR (chsOf (D.recs (3 : Nat) (chsOf (D.recs (3 : Nat) m.length (chCell m))).length (chCell (chsOf (D.recs (3 : Nat) m.length (chCell m))))))).fst)))).fst.length (chCell (getR (vl (D.ints IntKind.u8 ([] ++ (putR (chsOf (D.recs (3 : Nat) (chsOf (D.recs (3 : Nat) l.length (chCell l))).length (chCell (chsOf (D.recs (3 : Nat) l.length (chCell l))))))).fst ++ (putR (chsOf (D.recs (3 : Nat) (chsOf (D.recs (3 : Nat) m.length (chCell m))).length (chCell (chsOf (D.recs (3 : Nat) m.length (chCell m))))))).fst)))).fst))) (chsOf (D.recs (3 : Nat) ((chsOf (D.recs (3 : Nat) l.length (chCell l))).length + m.length) fun (i j : Nat) => bif i.blt (chsOf (D.recs (3 : Nat) l.length (chCell l))).length then chCell (chsOf (D.recs (3 : Nat) l.length (chCell l))) i j else chCell m (i - (chsOf (D.recs (3 : Nat) l.length (chCell l))).length) j))) (false = true ∧
  (true && true) = true) (True ∧ ((0 : Nat) + b.length) * Try.prog.types[(5 : Nat)].bytes ≤ (140737488355328 : Nat) ∧ (∃ (b_1 : List Int), [O.d (D.ints IntKind.u8 ([] ++ b))] = [O.d (D.ints IntKind.u8 b_1)] ∧
  sm b_1.length ∧ okB b_1) ∧ True ∧ sw (!decide ((getR y).snd = (0 : Int))) (True ∧ decide ((↑(getR y).fst.length : Int) = (0 : Int)) = true ∧ (true && true) = true) ((∃ (l_1 : List ChR), [O.d (D.recs (3 : Nat) (getR y).fst.length (chCell (getR y).fst))] = [O.d (D.recs (3 : Nat) l_1.length (chCell l_1))] ∧
  okChs l_1) ∧ True ∧ sw (decide ((putR (chsOf (D.recs (3 : Nat) (getR y).fst.length (chCell (getR y).fst)))).snd = (0 : Int))) (True ∧ decide ((bstr (putR (chsOf (D.recs (3 : Nat) (getR y).fst.length (chCell (getR y).fst)))).fst).data.toList = (bstr b).data.toList) = true ∧
  (true && true) = true) (false = true ∧ (true && true) = true))))) (True ∧ ((0 : Nat) + b.length) * Try.prog.types[(5 : Nat)].bytes ≤ (140737488355328 : Nat) ∧
  (∃ (b_1 : List Int), [O.d (D.ints IntKind.u8 ([] ++ b))] = [O.d (D.ints IntKind.u8 b_1)] ∧ sm b_1.length ∧ okB b_1) ∧ True ∧ sw (!decide ((getR y).snd = (0 : Int))) (True ∧
  decide ((↑(getR y).fst.length : Int) = (0 : Int)) = true ∧ (true && true) = true) ((∃ (l_1 : List ChR), [O.d (D.recs (3 : Nat) (getR y).fst.length (chCell (getR y).fst))] = [O.d (D.recs (3 : Nat) l_1.length (chCell l_1))] ∧
  okChs l_1) ∧ True ∧ sw (decide ((putR (chsOf (D.recs (3 : Nat) (getR y).fst.length (chCell (getR y).fst)))).snd = (0 : Int))) (True ∧ decide ((bstr (putR (chsOf (D.recs (3 : Nat) (getR y).fst.length (chCell (getR y).fst)))).fst).data.toList = (bstr b).data.toList) = true ∧
  (true && true) = true) (false = true ∧ (true && true) = true)))) (True ∧ ((0 : Nat) + b.length) * Try.prog.types[(5 : Nat)].bytes ≤ (140737488355328 : Nat) ∧
  (∃ (b_1 : List Int), [O.d (D.ints IntKind.u8 ([] ++ b))] = [O.d (D.ints IntKind.u8 b_1)] ∧ sm b_1.length ∧ okB b_1) ∧ True ∧ sw (!decide ((getR y).snd = (0 : Int))) (True ∧
  decide ((↑(getR y).fst.length : Int) = (0 : Int)) = true ∧ (true && true) = true) ((∃ (l_1 : List ChR), [O.d (D.recs (3 : Nat) (getR y).fst.length (chCell (getR y).fst))] = [O.d (D.recs (3 : Nat) l_1.length (chCell l_1))] ∧
  okChs l_1) ∧ True ∧ sw (decide ((putR (chsOf (D.recs (3 : Nat) (getR y).fst.length (chCell (getR y).fst)))).snd = (0 : Int))) (True ∧ decide ((bstr (putR (chsOf (D.recs (3 : Nat) (getR y).fst.length (chCell (getR y).fst)))).fst).data.toList = (bstr b).data.toList) = true ∧
  (true && true) = true) (false = true ∧ (true && true) = true)))) (True ∧ ((0 : Nat) + b.length) * Try.prog.types[(5 : Nat)].bytes ≤ (140737488355328 : Nat) ∧
  (∃ (b_1 : List Int), [O.d (D.ints IntKind.u8 ([] ++ b))] = [O.d (D.ints IntKind.u8 b_1)] ∧ sm b_1.length ∧ okB b_1) ∧ True ∧ sw (!decide ((getR y).snd = (0 : Int))) (True ∧
  decide ((↑(getR y).fst.length : Int) = (0 : Int)) = true ∧ (true && true) = true) ((∃ (l_1 : List ChR), [O.d (D.recs (3 : Nat) (getR y).fst.length (chCell (getR y).fst))] = [O.d (D.recs (3 : Nat) l_1.length (chCell l_1))] ∧
  okChs l_1) ∧ True ∧ sw (decide ((putR (chsOf (D.recs (3 : Nat) (getR y).fst.length (chCell (getR y).fst)))).snd = (0 : Int))) (True ∧ decide ((bstr (putR (chsOf (D.recs (3 : Nat) (getR y).fst.length (chCell (getR y).fst)))).fst).data.toList = (bstr b).data.toList) = true ∧
  (true && true) = true) (false = true ∧ (true && true) = true)))) (True ∧ ((0 : Nat) + b.length) * Try.prog.types[(5 : Nat)].bytes ≤ (140737488355328 : Nat) ∧
  (∃ (b_1 : List Int), [O.d (D.ints IntKind.u8 ([] ++ b))] = [O.d (D.ints IntKind.u8 b_1)] ∧ sm b_1.length ∧ okB b_1) ∧ True ∧ sw (!decide ((getR y).snd = (0 : Int))) (True ∧
  decide ((↑(getR y).fst.length : Int) = (0 : Int)) = true ∧ (true && true) = true) ((∃ (l_1 : List ChR), [O.d (D.recs (3 : Nat) (getR y).fst.length (chCell (getR y).fst))] = [O.d (D.recs (3 : Nat) l_1.length (chCell l_1))] ∧
  okChs l_1) ∧ True ∧ sw (decide ((putR (chsOf (D.recs (3 : Nat) (getR y).fst.length (chCell (getR y).fst)))).snd = (0 : Int))) (True ∧ decide ((bstr (putR (chsOf (D.recs (3 : Nat) (getR y).fst.length (chCell (getR y).fst)))).fst).data.toList = (bstr b).data.toList) = true ∧
  (true && true) = true) (false = true ∧ (true && true) = true)))) := by
  simp only [↓sw_iff, ↓Bool.and_eq_true, ↓decide_eq_true_eq, ↓decide_eq_false_iff_not, ↓Bool.not_eq_true', ↓Bool.not_eq_false', true_and, and_true, vl, Nat.zero_add, List.nil_append, Nat.mul_one, bytes5, bytes45, chsOf_chs]
  intro l m b hl hm h1 h2 h hb
  have h' := h
  unfold sm at h'
  have tail : b.length ≤ 140737488355328 ∧ (∃ b_1, [O.d (D.ints IntKind.u8 b)] = [O.d (D.ints IntKind.u8 b_1)] ∧ sm b_1.length ∧ okB b_1) ∧ (¬(getR b).snd = 0 → ((getR b).fst.length : Int) = 0) ∧
      ((getR b).snd = 0 → (∃ l_1, [O.d (D.recs 3 (getR b).fst.length (chCell (getR b).fst))] = [O.d (D.recs 3 l_1.length (chCell l_1))] ∧ okChs l_1) ∧
        ((putR (getR b).fst).snd = 0 → (bstr (putR (getR b).fst).fst).data.toList = (bstr b).data.toList) ∧ (¬(putR (getR b).fst).snd = 0 → false = true)) := by
    refine ⟨by omega, ⟨b, rfl, h, hb⟩, fun he => by rw [getR_err he]; rfl, fun he => ⟨⟨_, rfl, getR_ok hb⟩, fun _ => by rw [getR_put hb he], fun hx => ?_⟩⟩
    rw [getR_put hb he] at hx; exact absurd rfl hx
  refine ⟨⟨l, rfl, hl⟩, ⟨l, rfl, hl⟩, ⟨m, rfl, hm⟩, ⟨m, rfl, hm⟩, fun zl => ?_, fun zl => ⟨fun zl' => absurd zl' zl, fun _ => tail⟩⟩
  obtain ⟨l1, l2, l3⟩ := putR_zero zl
  have gl := get_put l1 l2
  rw [l3, gl]
  refine ⟨⟨_, rfl, by unfold sm; omega, putB_ok h1⟩, fun hx => absurd rfl hx, fun _ => ⟨⟨_, _, _, _, rfl, hl, hl, asCh_self _, asCh_self _⟩, fun hx => ?_, fun _ => ⟨fun _ => ⟨fun zm => ?_, fun _ => tail⟩, fun zl' => absurd zl zl'⟩⟩⟩
  · rw [sames_refl] at hx; cases hx
  obtain ⟨m1, m2, m3⟩ := putR_zero zm
  rw [m3]
  refine ⟨fun c1 => ⟨fun c2 => ?_, fun _ => tail⟩, fun _ => tail⟩
  rw [wrap_i64_id (by omega) (by omega)] at c1 c2
  have glm : getR (putB l ++ putB m) = (l ++ m, 0) := by
    rw [← putB_append]
    exact get_put (by rw [List.length_append]; omega) (by rw [putB_append, List.length_append]; omega)
  rw [glm]
  have ha := asCh_app l m
  have hlm : okChs (l ++ m) := ⟨by rw [List.length_append]; omega, fun c hc => (List.mem_append.1 hc).elim (hl.2 c) (hm.2 c)⟩
  refine ⟨by omega, by omega, ⟨_, rfl, by unfold sm; rw [List.length_append]; omega, okB_append (putB_ok h1) (putB_ok h2)⟩, fun hx => absurd rfl hx, fun _ => ⟨⟨_, rfl, hl⟩, by omega, ⟨_, _, _, _, rfl, hlm, hlm, asCh_self _, ha⟩, fun hx => ?_, fun _ => tail⟩⟩
  rw [ha.1, sames_refl] at hx; cases hx
set_option maxRecDepth 100000 in
theorem ok6 : FnIs Try.prog 6 backLawC := by
  refine fnIs (C := (ctrs c11)) (by kernel_rfl) c11_ok Try.func6 (code := code6) (by kernel_rfl) (by kernel_rfl) ?_
  rintro a ⟨l, m, b, rfl, hl, hm, h1, h2, h, hb⟩
  exact ⟨anns [] [7, 9, 11, 17], kcast (vc6 l m b hl hm h1 h2 h hb) (by kernel_rfl)⟩

end Go.ZR
