/- Part 17 of what the closing text rests on. -/
import Derived.Test.YtlbfenfepmmihaaQ16
import Derived.Test.YtlbfenfepmmihaaRows
namespace Go.ZR
open Go.Proofs
open Go.Z Go.ZM Go.RowKit
set_option maxRecDepth 100000

theorem hea_eta (h : HeaR) : HeaR.mk h.cum h.win h.gaps h.dups = h := rfl
theorem drop_getD {α : Type} {l : List α} {i : Nat} (d : α) (h : i < l.length) : l.drop i = l.getD i d :: l.drop (i + 1) := by
  rw [List.drop_eq_getElem_cons h]; simp [List.getD, List.getElem?_eq_getElem h]
noncomputable def code128 : Code := match Try.f128.body with | some c => c | none => .skip
set_option maxHeartbeats 4000000 in
theorem vc128 : ∀ (l : List (Int × Int)), okGs l → ∃ (g0 : Nat × Int), (g0.fst ≤ l.length ∧ ((0 : Int) ≤ g0.snd ∧ g0.snd ≤ (65535 : Int)) ∧ apartG g0.snd (List.drop g0.fst l) = apartF l) ∧
  (0 : Int) = (↑g0.fst : Int) ∧ (0 : Int) = g0.snd ∧ (true && true) = true ∧ ∀ (g : Nat × Int), g.fst ≤ l.length ∧ ((0 : Int) ≤ g.snd ∧ g.snd ≤ (65535 : Int)) ∧
  apartG g.snd (List.drop g.fst l) = apartF l → True ∧ sw (decide ((↑g.fst : Int) < (↑l.length : Int))) (((0 : Int) ≤ (↑g.fst : Int) ∧ (↑g.fst : Int) < (↑l.length : Int)) ∧
  True ∧ True ∧ sw (!decide (IntKind.i64.wrap (l.getD (↑g.fst : Int).toNat ((0 : Int), (0 : Int))).fst < IntKind.i64.wrap (g.snd + (2 : Int)))) (SV.p (1 : Nat) (1 : Nat) = SV.p (1 : Nat) (1 : Nat)) True ∧
  sw (!decide (IntKind.i64.wrap (l.getD (↑g.fst : Int).toNat ((0 : Int), (0 : Int))).fst < IntKind.i64.wrap (g.snd + (2 : Int)))) ([!decide (IntKind.i64.wrap (l.getD (↑g.fst : Int).toNat ((0 : Int), (0 : Int))).fst < IntKind.i64.wrap (g.snd + (2 : Int)))] = [!decide (IntKind.i64.wrap (l.getD (↑g.fst : Int).toNat ((0 : Int), (0 : Int))).fst < IntKind.i64.wrap (g.snd + (2 : Int)))] ∧
  SV.c (Value.int IntKind.u16 (l.getD (↑g.fst : Int).toNat ((0 : Int), (0 : Int))).snd) = SV.c (Value.int IntKind.u16 (l.getD (↑g.fst : Int).toNat ((0 : Int), (0 : Int))).snd)) True ∧
  sw (!decide (IntKind.i64.wrap (l.getD (↑g.fst : Int).toNat ((0 : Int), (0 : Int))).fst < IntKind.i64.wrap (g.snd + (2 : Int)))) (SV.p (1 : Nat) (0 : Nat) = SV.p (1 : Nat) (0 : Nat)) True ∧
  sw (!decide (IntKind.i64.wrap (l.getD (↑g.fst : Int).toNat ((0 : Int), (0 : Int))).fst < IntKind.i64.wrap (g.snd + (2 : Int)))) ([!decide (IntKind.i64.wrap (l.getD (↑g.fst : Int).toNat ((0 : Int), (0 : Int))).fst < IntKind.i64.wrap (g.snd + (2 : Int)))] = [!decide (IntKind.i64.wrap (l.getD (↑g.fst : Int).toNat ((0 : Int), (0 : Int))).fst < IntKind.i64.wrap (g.snd + (2 : Int)))] ∧
  SV.c (Value.int IntKind.u16 (l.getD (↑g.fst : Int).toNat ((0 : Int), (0 : Int))).fst) = SV.c (Value.int IntKind.u16 (l.getD (↑g.fst : Int).toNat ((0 : Int), (0 : Int))).fst)) True ∧
  sw (!decide (IntKind.i64.wrap (l.getD (↑g.fst : Int).toNat ((0 : Int), (0 : Int))).fst < IntKind.i64.wrap (g.snd + (2 : Int)))) ([!decide (IntKind.i64.wrap (l.getD (↑g.fst : Int).toNat ((0 : Int), (0 : Int))).fst < IntKind.i64.wrap (g.snd + (2 : Int)))] = [!decide (IntKind.i64.wrap (l.getD (↑g.fst : Int).toNat ((0 : Int), (0 : Int))).fst < IntKind.i64.wrap (g.snd + (2 : Int)))] ∧
  [!decide (IntKind.i64.wrap (l.getD (↑g.fst : Int).toNat ((0 : Int), (0 : Int))).fst < IntKind.i64.wrap (g.snd + (2 : Int)))] = [!decide (IntKind.i64.wrap (l.getD (↑g.fst : Int).toNat ((0 : Int), (0 : Int))).fst < IntKind.i64.wrap (g.snd + (2 : Int)))] ∧
  True ∧ SV.c (Value.bool (decide ((l.getD (↑g.fst : Int).toNat ((0 : Int), (0 : Int))).snd < (l.getD (↑g.fst : Int).toNat ((0 : Int), (0 : Int))).fst))) = SV.c (Value.bool (decide ((l.getD (↑g.fst : Int).toNat ((0 : Int), (0 : Int))).snd < (l.getD (↑g.fst : Int).toNat ((0 : Int), (0 : Int))).fst)))) True ∧
  [!decide (IntKind.i64.wrap (l.getD (↑g.fst : Int).toNat ((0 : Int), (0 : Int))).fst < IntKind.i64.wrap (g.snd + (2 : Int)))] = [!decide (IntKind.i64.wrap (l.getD (↑g.fst : Int).toNat ((0 : Int), (0 : Int))).fst < IntKind.i64.wrap (g.snd + (2 : Int)))] ∧
  sw (decide (IntKind.i64.wrap (l.getD (↑g.fst : Int).toNat ((0 : Int), (0 : Int))).fst < IntKind.i64.wrap (g.snd + (2 : Int))) || decide ((l.getD (↑g.fst : Int).toNat ((0 : Int), (0 : Int))).snd < (l.getD (↑g.fst : Int).toNat ((0 : Int), (0 : Int))).fst)) (false = apartF (gapsOf (D.recs (2 : Nat) l.length (gapCell l))) ∧
  (true && true) = true) (True ∧ ∃ (g' : Nat × Int), (g'.fst ≤ l.length ∧ ((0 : Int) ≤ g'.snd ∧ g'.snd ≤ (65535 : Int)) ∧ apartG g'.snd (List.drop g'.fst l) = apartF l) ∧
  l.length - g'.fst < l.length - g.fst ∧ (IntKind.i64.wrap ((↑g.fst : Int) + (1 : Int)) = (↑g'.fst : Int) ∧ IntKind.i64.wrap (l.getD (↑g.fst : Int).toNat ((0 : Int), (0 : Int))).snd = g'.snd ∧
  (true && true && true) = true) ∧ (some (SV.c (Value.int IntKind.i64 (↑l.length : Int))) = some (SV.c (Value.int IntKind.i64 (↑l.length : Int))) ∧ some (SV.a (0 : Nat)) = some (SV.a (0 : Nat)) ∧
  some (SV.a (0 : Nat)) = some (SV.a (0 : Nat)) ∧ True) ∧ some (R.ro (D.recs (2 : Nat) l.length (gapCell l))) = some (R.ro (D.recs (2 : Nat) l.length (gapCell l))) ∧
  True)) (true = apartF (gapsOf (D.recs (2 : Nat) l.length (gapCell l))) ∧ (true && true) = true) := by
  simp only [↓sw_iff, ↓Bool.and_eq_true, ↓decide_eq_true_eq, ↓decide_eq_false_iff_not, ↓Bool.not_eq_true', ↓Bool.not_eq_false', true_and, and_true, implies_true, Int.toNat_natCast, gapsOf_gaps]
  intro l h
  refine ⟨(0, 0), ⟨Nat.zero_le _, ⟨by decide, by decide⟩, rfl⟩, rfl, rfl, ?_⟩
  rintro ⟨i, a⟩ ⟨g1, ⟨g2, g3⟩, g4⟩
  simp only at g1 g2 g3 g4 ⊢
  have hL := h.1
  refine ⟨fun hlt => ?_, fun hge => ?_⟩
  · have hi : i < l.length := by omega
    obtain ⟨⟨m1, m2⟩, ⟨m3, m4⟩⟩ := h.2 _ (getD_mem (d := ((0 : Int), (0 : Int))) hi)
    have w1 : IntKind.i64.wrap (l.getD i (0, 0)).1 = _ := wrap_i64_id (by omega) (by omega)
    have w2 : IntKind.i64.wrap (a + 2) = _ := wrap_i64_id (by omega) (by omega)
    have w3 : IntKind.i64.wrap (l.getD i (0, 0)).2 = _ := wrap_i64_id (by omega) (by omega)
    have w4 : IntKind.i64.wrap ((i : Int) + 1) = _ := wrap_i64_id (by omega) (by omega)
    rw [drop_getD (0, 0) hi, apartG] at g4
    refine ⟨⟨by omega, by omega⟩, fun e => ?_, fun e => ?_⟩
    · have e' : (l.getD i (0, 0)).1 < a + 2 ∨ (l.getD i (0, 0)).2 < (l.getD i (0, 0)).1 := by
        rcases Bool.or_eq_true_iff.1 e with e | e
        · have e := of_decide_eq_true e
          rw [w1, w2] at e
          exact .inl e
        · exact .inr (of_decide_eq_true e)
      rw [if_pos e'] at g4; exact g4
    obtain ⟨e1, e2⟩ := Bool.or_eq_false_iff.1 e
    have e1 := of_decide_eq_false e1
    have e2 := of_decide_eq_false e2
    rw [w1, w2] at e1
    rw [if_neg (by omega)] at g4
    exact ⟨(i + 1, (l.getD i (0, 0)).2), ⟨hi, ⟨m3, m4⟩, g4⟩, by simp only; omega, w4, w3⟩
  · rw [List.drop_of_length_le (by omega)] at g4
    exact g4
set_option maxRecDepth 100000 in
theorem ok128 : FnIs Try.prog 128 apartC := by
  refine fnIs (C := (ctrs c0)) (by kernel_rfl) c0_ok Try.func128 (code := code128) (by kernel_rfl) (by kernel_rfl) ?_
  rintro a ⟨l, rfl, h⟩
  exact ⟨anns [(3, apartAnn 8 3 l)], kcast (vc128 l h) (by kernel_rfl)⟩

end Go.ZR

set_option maxRecDepth 100000
namespace Go.ZR
open Go.Z Go.ZM Go.Proofs
def n2 : List (Nat × Ctr) := [(82, cloneC), (51, cumQC), (128, apartC), (88, hitC), (83, markC), (91, hasC)]
theorem n2_ok : COk Try.prog (ctrs n2) := cok_cons ok82 (cok_cons ok51 (cok_cons ok128 (cok_cons ok88 (cok_cons ok83 (cok_cons ok91 cok_nil)))))
def lenC : Ctr := nC 1 true (fun a => ∃ x : Int, a = [iO .u64 x] ∧ (x = 0 ∨ x = 1)) fun a => [iO .i64 (vi (dO (at_ a 0)))]
def sort1C : Ctr where
  own := [true]
  pre := fun a => ∃ l : List Int, a = [.own 3 (.ints .i64 l)] ∧ l.length ≤ 1
  res := fun _ => []
  upd := fun a => a
  ro := true
  quiet := false
def n2s : List (Nat × Ctr) := [(180, lenC)]
def acO (l : List Int) : OI := .o (.own 3 (.ints .i64 l))
def h1Ann (q : QuR) (h : HeaR) : LoopAnn where
  γ := Nat
  pre := fun k => k ≤ doneQ q h
  μ := fun k => doneQ q h - k
  items := fun k => [(53, .c (iO .i64 (k : Int))), (4, .blk [acO (ac1 q k)]), (51, .pw (itCell (mapTo (fun _ => noteI) q.out k)))]
def h2Ann (q : QuR) (h : HeaR) : LoopAnn where
  γ := Nat
  pre := fun k => k ≤ (out1 q h).length
  μ := fun k => (out1 q h).length - k
  items := fun k => [(75, .c (iO .i64 (k : Int))), (12, .c (iO .i64 (lastG h.gaps k))), (4, .blk [acO (ac2 q h k)]), (73, .pw (itCell (mapTo (gapI h.gaps) (out1 q h) k)))]
def h3Ann (q : QuR) (h : HeaR) : LoopAnn where
  γ := Nat
  pre := fun k => k ≤ last2 q h
  μ := fun k => last2 q h - k
  items := fun k => [(102, .c (iO .i64 (k : Int))), (5, .c (.own 3 (.ints .i64 (fast3 q h k)))), (100, .pw (itCell (mapTo (fun _ => missI) (out2 q h) k)))]
end Go.ZR
