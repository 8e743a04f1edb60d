/- Part 20 of what the closing text rests on. -/
import Derived.Test.YtlbfenfepmmihaaU18
import Derived.Test.YtlbfenfepmmihaaU19
import Derived.Test.YtlbfenfepmmihaaRows
import Derived.RangeFuncBox
import Derived.RangeFuncNested
import Derived.RangeFuncBound
import Derived.RangeFuncCalls
import Derived.RangeFuncLeaves
import Derived.RangeFuncStops
import Derived.RangeFuncSeq
import Derived.Shelf.Abstract
import Derived.Shelf.AbstractIn
import Derived.Shelf.RegionOpen
import Derived.Sort.MapsRangeIn
import Derived.Maps.OwnIn
import Derived.Maps.AppendAt
import Derived.WalkKit
import Derived.WalkSmall
import Derived.OwnWalkIn
import Derived.TacticsInMore
import Derived.RegionIn
import Derived.LoopNIn
import Derived.LoopIn
import Derived.Lib.SlKeysI
import Derived.Test.YtlbfenfepmmihaaChecked
import Derived.StillTactics
import Derived.StillTailTactics
import Derived.Sort.Grow
import Derived.Deep.Draws
import Derived.ProofKit
set_option maxRecDepth 100000
namespace Go.ZM
open Go.Z Go.ZR
theorem dueW_stop {w : Whl} {now : Int} (h : w.l.length = 0 ∨ now < (tf w.l 0).at_) : dueW w now = ([], w) := by
  unfold dueW
  cases hl : w.l.length with
  | zero => rfl
  | succ u =>
    unfold dueK
    rw [if_pos h]
theorem dueW_step {w : Whl} {now : Int} (h : ¬ (w.l.length = 0 ∨ now < (tf w.l 0).at_)) : dueW w now = (tf w.l 0 :: (dueW (popW w) now).1, (dueW (popW w) now).2) := by
  unfold dueW
  cases hl : w.l.length with
  | zero => exact absurd (.inl hl) h
  | succ u =>
    conv => lhs; unfold dueK
    rw [if_neg h]
    have : (popW w).l.length = u := by show (popT w.l).length = u; rw [popT_len]; omega
    rw [this]
end Go.ZM
namespace Go.ZR
open Go.Z Go.ZM Go.Proofs
def dueA (w : Whl) (now : Int) : LoopAnn where
  γ := List Tim × Whl
  pre := fun g => okW g.2 ∧ g.1.length + g.2.l.length ≤ 4096 ∧ (g.1 ++ (dueW g.2 now).1, (dueW g.2 now).2) = dueW w now
  μ := fun g => g.2.l.length
  items := fun g => [(5, .c (timsO g.1)), (0, .blk (whB g.2.l g.2.ks))]
end Go.ZR

namespace Go.ZR
open Go.Proofs
open Go.Z Go.ZM Go.RowKit
set_option maxRecDepth 100000
theorem w5_ok : COk Try.prog (ctrs w5) := cok_cons ok93 (cok_cons ok94 (cok_cons ok96 (cok_cons ok101 cok_nil)))
theorem setRec_at {l : List Tim} {k : Nat} (hk : k < l.length) (x : Int) : setRecM (timCell l) k 1 [D.v (.int .i64 x)] = timCell (l.set k ⟨(tf l k).id, x⟩) := by
  rw [setRecM_eq]
  funext i j
  have b0 : Nat.ble 1 0 = false := rfl
  have b1 : Nat.ble 1 1 = true := rfl
  have e : (l.set k ⟨(tf l k).id, x⟩).getD i noTim = if i = k then ⟨(tf l k).id, x⟩ else l.getD i noTim := tf_set hk _ i
  unfold setRec
  match j with
  | 0 =>
    rw [show timCell (l.set k ⟨(tf l k).id, x⟩) i 0 = .v (.int .i64 ((l.set k ⟨(tf l k).id, x⟩).getD i noTim).id) from rfl, e]
    have : timCell l i 0 = .v (.int .i64 (l.getD i noTim).id) := rfl
    rw [this, b0]
    by_cases h : i = k
    · subst h; simp [tf]
    · simp [h]
  | 1 =>
    rw [show timCell (l.set k ⟨(tf l k).id, x⟩) i 1 = .v (.int .i64 ((l.set k ⟨(tf l k).id, x⟩).getD i noTim).at_) from rfl, e]
    have : timCell l i 1 = .v (.int .i64 (l.getD i noTim).at_) := rfl
    rw [this, b1]
    by_cases h : i = k
    · subst h
      have b2 : Nat.ble 2 2 = true := rfl
      simp [Nat.blt, b2]
    · rw [beq_ne h]; simp [h]
  | j + 2 =>
    have b2 : Nat.blt (j + 2) (1 + [D.v (Value.int .i64 x)].length) = false := by
      cases hb : Nat.blt (j + 2) (1 + [D.v (Value.int .i64 x)].length) with
      | false => rfl
      | true =>
        have := Nat.le_of_ble_eq_true hb
        simp only [List.length_cons, List.length_nil] at this
        omega
    rw [b2, Bool.and_false]
    rfl
theorem midx_pos {w : Whl} {id : Int} (hm : id ∈ w.ks) : (oget (posL w) (midx w.ks id)).getD 0 = posI w.l id := by
  have h := midx_in hm
  cases hx : midx w.ks id with
  | none => rw [hx] at h; cases h
  | some j =>
    have h2 := midx_lt hx
    show ((posL w)[j]?).getD 0 = _
    unfold posL
    rw [List.getElem?_map, h2]
    rfl
theorem midx_mem {ks : List Int} {x : Int} (h : (midx ks x).isSome = true) : x ∈ ks := by
  by_cases hx : x ∈ ks
  · exact hx
  · rw [wmidx_none hx] at h; cases h
theorem midx_not {ks : List Int} {x : Int} (h : (midx ks x).isSome = false) : x ∉ ks := fun hx => by rw [midx_in hx] at h; cases h
theorem posI_nat (l : List Tim) (x : Int) : posI l x = ((posI l x).toNat : Int) := by
  show ((l.findIdx fun t => t.id == x : Nat) : Int) = (((l.findIdx fun t => t.id == x : Nat) : Int).toNat : Int)
  rw [Int.toNat_natCast]
theorem set_okW {w : Whl} (h : okW w) {k : Nat} (hk : k < w.l.length) (x : Int) : okW ⟨w.l.set k ⟨(tf w.l k).id, x⟩, w.ks⟩ := by
  refine ⟨?_, ?_, ?_⟩
  · rw [map_set_id x hk]; exact h.1
  · rw [map_set_id x hk]; exact h.2.1
  · rw [List.length_set]; exact h.2.2
theorem setPos {w : Whl} {k : Nat} (hk : k < w.l.length) (x : Int) : posL ⟨w.l.set k ⟨(tf w.l k).id, x⟩, w.ks⟩ = posL w := by
  unfold posL
  refine List.map_congr_left fun y _ => ?_
  unfold posI
  have e : ∀ l : List Tim, (l.findIdx fun t => t.id == y) = (l.map Tim.id).findIdx fun t => t == y := fun l => by rw [List.findIdx_map]; rfl
  rw [e, e, map_set_id x hk]
noncomputable def code42 : Code := match Try.f42.body with | some c => c | none => .skip
set_option maxHeartbeats 4000000 in
theorem vc42 : noW.l.length = (0 : Nat) ∧ [] = noW.ks ∧ [] = posL noW ∧ (!(Nat.beq (0 : Nat) (1 : Nat) || false) && (!false && true) && true) = true := by
  simp only [↓Bool.and_eq_true, ↓Bool.not_eq_true', and_true, Bool.or_false, Nat.beq]
  exact ⟨rfl, rfl, rfl⟩
set_option maxRecDepth 100000 in
theorem ok42 : FnIs Try.prog 42 newC := by
  refine fnIs (C := (ctrs c0)) (by kernel_rfl) c0_ok Try.func42 (code := code42) (by kernel_rfl) (by kernel_rfl) ?_
  rintro a rfl
  exact ⟨anns [], kcast (vc42) (by kernel_rfl)⟩

noncomputable def code95 : Code := match Try.f95.body with | some c => c | none => .skip
set_option maxHeartbeats 4000000 in
theorem vc95 : ∀ (w : Whl), okW w → True ∧ sw (decide ((↑w.l.length : Int) = (0 : Int))) ((w.l.length = (timsOf (D.recs (2 : Nat) w.l.length (timCell w.l))).length ∧ ∀ (i : Nat), i < w.l.length →
  ∀ (j : Nat), j < (2 : Nat) → timCell w.l i j = timCell (timsOf (D.recs (2 : Nat) w.l.length (timCell w.l))) i j) ∧ w.ks = w.ks ∧ posL w = posL (Whl.mk (timsOf (D.recs (2 : Nat) w.l.length (timCell w.l))) w.ks) ∧
  (0 : Int) = (tf (timsOf (D.recs (2 : Nat) w.l.length (timCell w.l))) (0 : Nat)).id ∧ (0 : Int) = (tf (timsOf (D.recs (2 : Nat) w.l.length (timCell w.l))) (0 : Nat)).at_ ∧
  false = !decide ((timsOf (D.recs (2 : Nat) w.l.length (timCell w.l))).length = (0 : Nat)) ∧ (!(Nat.beq (0 : Nat) (2 : Nat) || (Nat.beq (1 : Nat) (2 : Nat) || false)) && (!(Nat.beq (1 : Nat) (0 : Nat) || false) && (!false && true)) && true) = true) (((0 : Int) ≤ (0 : Int) ∧
  (0 : Int) < (↑w.l.length : Int)) ∧ (w.l.length = (timsOf (D.recs (2 : Nat) w.l.length (timCell w.l))).length ∧ ∀ (i : Nat), i < w.l.length → ∀ (j : Nat), j < (2 : Nat) →
  timCell w.l i j = timCell (timsOf (D.recs (2 : Nat) w.l.length (timCell w.l))) i j) ∧ w.ks = w.ks ∧ posL w = posL (Whl.mk (timsOf (D.recs (2 : Nat) w.l.length (timCell w.l))) w.ks) ∧
  (w.l.getD (Int.toNat (0 : Int)) noTim).id = (tf (timsOf (D.recs (2 : Nat) w.l.length (timCell w.l))) (0 : Nat)).id ∧ (w.l.getD (Int.toNat (0 : Int)) noTim).at_ = (tf (timsOf (D.recs (2 : Nat) w.l.length (timCell w.l))) (0 : Nat)).at_ ∧
  true = !decide ((timsOf (D.recs (2 : Nat) w.l.length (timCell w.l))).length = (0 : Nat)) ∧ (!(Nat.beq (0 : Nat) (2 : Nat) || (Nat.beq (1 : Nat) (2 : Nat) || false)) && (!(Nat.beq (1 : Nat) (0 : Nat) || false) && (!false && true)) && true) = true) := by
  simp only [↓sw_iff, ↓Bool.and_eq_true, ↓decide_eq_true_eq, ↓decide_eq_false_iff_not, ↓Bool.not_eq_true', true_and, and_true, implies_true, Bool.or_false, Nat.beq, timsOf_cell]
  intro w h
  refine ⟨fun h0 => ?_, fun h0 => ⟨⟨by omega, by omega⟩, rfl, rfl, ?_⟩⟩
  · have e : w.l = [] := List.eq_nil_of_length_eq_zero (by omega)
    rw [e]
    exact ⟨rfl, rfl, rfl⟩
  · rw [decide_eq_false (by omega)]; rfl
set_option maxRecDepth 100000 in
theorem ok95 : FnIs Try.prog 95 nextC := by
  refine fnIs (C := (ctrs c0)) (by kernel_rfl) c0_ok Try.func95 (code := code95) (by kernel_rfl) (by kernel_rfl) ?_
  rintro a ⟨w, rfl, h⟩
  exact ⟨anns [], kcast (vc95 w h) (by kernel_rfl)⟩

theorem w6_ok : COk Try.prog (ctrs w6) := cok_cons ok95 (cok_cons ok96 cok_nil)

noncomputable def code44 : Code := match Try.f44.body with | some c => c | none => .skip
set_option maxHeartbeats 4000000 in
theorem vc44 : ∀ (w : Whl) (id x : Int), okW w → True ∧ sw (!decide (x < (0 : Int))) (SV.c (Value.int IntKind.i64 x) = SV.c (Value.int IntKind.i64 x)) True ∧ sw (!decide (x < (0 : Int))) ([!decide (x < (0 : Int))] = [!decide (x < (0 : Int))] ∧
  True ∧ SV.c (Value.bool (decide ((1099511627776 : Int) < x))) = SV.c (Value.bool (decide ((1099511627776 : Int) < x)))) True ∧ [!decide (x < (0 : Int))] = [!decide (x < (0 : Int))] ∧
  sw (decide (x < (0 : Int)) || decide ((1099511627776 : Int) < x)) ((w.l.length = (setW (Whl.mk (timsOf (D.recs (2 : Nat) w.l.length (timCell w.l))) w.ks) id x).fst.l.length ∧
  ∀ (i : Nat), i < w.l.length → ∀ (j : Nat), j < (2 : Nat) → timCell w.l i j = timCell (setW (Whl.mk (timsOf (D.recs (2 : Nat) w.l.length (timCell w.l))) w.ks) id x).fst.l i j) ∧
  w.ks = (setW (Whl.mk (timsOf (D.recs (2 : Nat) w.l.length (timCell w.l))) w.ks) id x).fst.ks ∧ posL w = posL (setW (Whl.mk (timsOf (D.recs (2 : Nat) w.l.length (timCell w.l))) w.ks) id x).fst ∧
  (1 : Int) = (setW (Whl.mk (timsOf (D.recs (2 : Nat) w.l.length (timCell w.l))) w.ks) id x).snd ∧ (!(Nat.beq (0 : Nat) (2 : Nat) || (Nat.beq (1 : Nat) (2 : Nat) || false)) && (!(Nat.beq (1 : Nat) (0 : Nat) || false) && (!false && true)) && true) = true) (sw (midx w.ks id).isSome (((0 : Int) ≤ (oget (posL w) (midx w.ks id)).getD (0 : Int) ∧
  (oget (posL w) (midx w.ks id)).getD (0 : Int) < (↑w.l.length : Int)) ∧ (∃ (w_1 : Whl), ∃ (i : Nat), [O.ifc (186 : Nat) (O.ptr (183 : Nat) [O.own (99 : Nat) (D.recs (2 : Nat) w.l.length (setRecM (timCell w.l) ((oget (posL w) (midx w.ks id)).getD (0 : Int)).toNat (1 : Nat) [D.v (Value.int IntKind.i64 x)])), O.map (Col.ints IntKind.i64 w.ks) (Col.ints IntKind.i64 (posL w))]), O.d (D.v (Value.int IntKind.i64 ((oget (posL w) (midx w.ks id)).getD (0 : Int))))] = [O.ifc (186 : Nat) (O.ptr (183 : Nat) [O.own (99 : Nat) (D.recs (2 : Nat) w_1.l.length (timCell w_1.l)), O.map (Col.ints IntKind.i64 w_1.ks) (Col.ints IntKind.i64 (posL w_1))]), O.d (D.v (Value.int IntKind.i64 (↑i : Int)))] ∧
  okW w_1 ∧ i < w_1.l.length) ∧ ((fixL (timsOf (D.recs (2 : Nat) w.l.length (setRecM (timCell w.l) ((oget (posL w) (midx w.ks id)).getD (0 : Int)).toNat (1 : Nat) [D.v (Value.int IntKind.i64 x)]))) ((oget (posL w) (midx w.ks id)).getD (0 : Int)).toNat (timsOf (D.recs (2 : Nat) w.l.length (setRecM (timCell w.l) ((oget (posL w) (midx w.ks id)).getD (0 : Int)).toNat (1 : Nat) [D.v (Value.int IntKind.i64 x)]))).length).length = (setW (Whl.mk (timsOf (D.recs (2 : Nat) w.l.length (timCell w.l))) w.ks) id x).fst.l.length ∧
  ∀ (i : Nat), i < (fixL (timsOf (D.recs (2 : Nat) w.l.length (setRecM (timCell w.l) ((oget (posL w) (midx w.ks id)).getD (0 : Int)).toNat (1 : Nat) [D.v (Value.int IntKind.i64 x)]))) ((oget (posL w) (midx w.ks id)).getD (0 : Int)).toNat (timsOf (D.recs (2 : Nat) w.l.length (setRecM (timCell w.l) ((oget (posL w) (midx w.ks id)).getD (0 : Int)).toNat (1 : Nat) [D.v (Value.int IntKind.i64 x)]))).length).length →
  ∀ (j : Nat), j < (2 : Nat) → timCell (fixL (timsOf (D.recs (2 : Nat) w.l.length (setRecM (timCell w.l) ((oget (posL w) (midx w.ks id)).getD (0 : Int)).toNat (1 : Nat) [D.v (Value.int IntKind.i64 x)]))) ((oget (posL w) (midx w.ks id)).getD (0 : Int)).toNat (timsOf (D.recs (2 : Nat) w.l.length (setRecM (timCell w.l) ((oget (posL w) (midx w.ks id)).getD (0 : Int)).toNat (1 : Nat) [D.v (Value.int IntKind.i64 x)]))).length) i j = timCell (setW (Whl.mk (timsOf (D.recs (2 : Nat) w.l.length (timCell w.l))) w.ks) id x).fst.l i j) ∧
  w.ks = (setW (Whl.mk (timsOf (D.recs (2 : Nat) w.l.length (timCell w.l))) w.ks) id x).fst.ks ∧ posL (Whl.mk (fixL (timsOf (D.recs (2 : Nat) w.l.length (setRecM (timCell w.l) ((oget (posL w) (midx w.ks id)).getD (0 : Int)).toNat (1 : Nat) [D.v (Value.int IntKind.i64 x)]))) ((oget (posL w) (midx w.ks id)).getD (0 : Int)).toNat (timsOf (D.recs (2 : Nat) w.l.length (setRecM (timCell w.l) ((oget (posL w) (midx w.ks id)).getD (0 : Int)).toNat (1 : Nat) [D.v (Value.int IntKind.i64 x)]))).length) w.ks) = posL (setW (Whl.mk (timsOf (D.recs (2 : Nat) w.l.length (timCell w.l))) w.ks) id x).fst ∧
  (0 : Int) = (setW (Whl.mk (timsOf (D.recs (2 : Nat) w.l.length (timCell w.l))) w.ks) id x).snd ∧ (!(Nat.beq (3 : Nat) (2 : Nat) || (Nat.beq (4 : Nat) (2 : Nat) || false)) && (!(Nat.beq (4 : Nat) (3 : Nat) || false) && (!false && true)) && true) = true) (True ∧
  sw (decide ((4096 : Int) ≤ (↑w.l.length : Int))) ((w.l.length = (setW (Whl.mk (timsOf (D.recs (2 : Nat) w.l.length (timCell w.l))) w.ks) id x).fst.l.length ∧
  ∀ (i : Nat), i < w.l.length → ∀ (j : Nat), j < (2 : Nat) → timCell w.l i j = timCell (setW (Whl.mk (timsOf (D.recs (2 : Nat) w.l.length (timCell w.l))) w.ks) id x).fst.l i j) ∧
  w.ks = (setW (Whl.mk (timsOf (D.recs (2 : Nat) w.l.length (timCell w.l))) w.ks) id x).fst.ks ∧ posL w = posL (setW (Whl.mk (timsOf (D.recs (2 : Nat) w.l.length (timCell w.l))) w.ks) id x).fst ∧
  (10 : Int) = (setW (Whl.mk (timsOf (D.recs (2 : Nat) w.l.length (timCell w.l))) w.ks) id x).snd ∧ (!(Nat.beq (0 : Nat) (2 : Nat) || (Nat.beq (1 : Nat) (2 : Nat) || false)) && (!(Nat.beq (1 : Nat) (0 : Nat) || false) && (!false && true)) && true) = true) ((∃ (w_1 : Whl), ∃ (t : Tim), [O.ifc (186 : Nat) (O.ptr (183 : Nat) [O.own (99 : Nat) (D.recs (2 : Nat) w.l.length (timCell w.l)), O.map (Col.ints IntKind.i64 w.ks) (Col.ints IntKind.i64 (posL w))]), O.ifc (99 : Nat) (O.agg [O.d (D.v (Value.int IntKind.i64 id)), O.d (D.v (Value.int IntKind.i64 x))])] = [O.ifc (186 : Nat) (O.ptr (183 : Nat) [O.own (99 : Nat) (D.recs (2 : Nat) w_1.l.length (timCell w_1.l)), O.map (Col.ints IntKind.i64 w_1.ks) (Col.ints IntKind.i64 (posL w_1))]), O.ifc (99 : Nat) (O.agg [O.d (D.v (Value.int IntKind.i64 t.id)), O.d (D.v (Value.int IntKind.i64 t.at_))])] ∧
  okW w_1 ∧ w_1.l.length < (4096 : Nat) ∧ ¬t.id ∈ w_1.ks) ∧ ((pushT (timsOf (D.recs (2 : Nat) w.l.length (timCell w.l))) (Tim.mk id x)).length = (setW (Whl.mk (timsOf (D.recs (2 : Nat) w.l.length (timCell w.l))) w.ks) id x).fst.l.length ∧
  ∀ (i : Nat), i < (pushT (timsOf (D.recs (2 : Nat) w.l.length (timCell w.l))) (Tim.mk id x)).length → ∀ (j : Nat), j < (2 : Nat) → timCell (pushT (timsOf (D.recs (2 : Nat) w.l.length (timCell w.l))) (Tim.mk id x)) i j = timCell (setW (Whl.mk (timsOf (D.recs (2 : Nat) w.l.length (timCell w.l))) w.ks) id x).fst.l i j) ∧
  w.ks ++ [id] = (setW (Whl.mk (timsOf (D.recs (2 : Nat) w.l.length (timCell w.l))) w.ks) id x).fst.ks ∧ posL (Whl.mk (pushT (timsOf (D.recs (2 : Nat) w.l.length (timCell w.l))) (Tim.mk id x)) (w.ks ++ [id])) = posL (setW (Whl.mk (timsOf (D.recs (2 : Nat) w.l.length (timCell w.l))) w.ks) id x).fst ∧
  (0 : Int) = (setW (Whl.mk (timsOf (D.recs (2 : Nat) w.l.length (timCell w.l))) w.ks) id x).snd ∧ (!(Nat.beq (3 : Nat) (2 : Nat) || (Nat.beq (4 : Nat) (2 : Nat) || false)) && (!(Nat.beq (4 : Nat) (3 : Nat) || false) && (!false && true)) && true) = true))) := by
  simp only [↓sw_iff, ↓Bool.and_eq_true, ↓decide_eq_true_eq, ↓decide_eq_false_iff_not, ↓Bool.not_eq_true', ↓Bool.not_eq_false', true_and, and_true, implies_true, Bool.or_false, Nat.beq, timsOf_cell]
  intro w id x h
  refine ⟨fun hb => ?_, fun hb => ?_⟩
  · have e : setW ⟨w.l, w.ks⟩ id x = (w, 1) := if_pos (by simpa using hb)
    rw [e]
    exact ⟨⟨rfl, fun _ _ _ _ => rfl⟩, rfl, rfl, rfl⟩
  · have hb' : ¬ (x < 0 ∨ 1099511627776 < x) := by simpa using hb
    refine ⟨fun hk => ?_, fun hk => ⟨fun hf => ?_, fun hf => ?_⟩⟩
    · have hm := midx_mem hk
      have hlt := posI_lt (h.2.1.mem_iff.1 hm)
      have e : setW ⟨w.l, w.ks⟩ id x = (⟨moveT w.l (posI w.l id).toNat x, w.ks⟩, 0) := by
        unfold setW
        rw [if_neg hb', if_pos hm]
      rw [midx_pos hm, e]
      have hn := posI_nat w.l id
      generalize (posI w.l id).toNat = k at hlt hn
      rw [hn]
      have et : timsOf (.recs 2 w.l.length (timCell (w.l.set k ⟨(tf w.l k).id, x⟩))) = w.l.set k ⟨(tf w.l k).id, x⟩ := by
        have := timsOf_cell (w.l.set k ⟨(tf w.l k).id, x⟩)
        rwa [List.length_set] at this
      have em := move_eq hlt x
      simp only [setRec_at hlt, et, List.length_set, em]
      exact ⟨⟨by omega, by omega⟩, ⟨⟨w.l.set k ⟨(tf w.l k).id, x⟩, w.ks⟩, k, by rw [setPos hlt, List.length_set], set_okW h hlt x, by rw [List.length_set]; exact hlt⟩, ⟨trivial, fun _ _ _ _ => trivial⟩, trivial, trivial, trivial⟩
    · have hm := midx_not hk
      have e : setW ⟨w.l, w.ks⟩ id x = (w, 10) := by
        unfold setW
        rw [if_neg hb', if_neg hm, if_pos (show 4096 ≤ w.l.length by omega)]
      rw [e]
      exact ⟨⟨rfl, fun _ _ _ _ => rfl⟩, rfl, rfl, rfl⟩
    · have hm := midx_not hk
      have e : setW ⟨w.l, w.ks⟩ id x = (⟨pushT w.l ⟨id, x⟩, w.ks ++ [id]⟩, 0) := by
        unfold setW
        rw [if_neg hb', if_neg hm, if_neg (show ¬ 4096 ≤ w.l.length by omega)]
      rw [e]
      exact ⟨⟨w, ⟨id, x⟩, rfl, h, by omega, hm⟩, ⟨rfl, fun _ _ _ _ => rfl⟩, rfl, rfl, rfl⟩
set_option maxRecDepth 100000 in
theorem ok44 : FnIs Try.prog 44 setC := by
  refine fnIs (C := (ctrs w5)) (by kernel_rfl) w5_ok Try.func44 (code := code44) (by kernel_rfl) (by kernel_rfl) ?_
  rintro a ⟨w, id, x, rfl, h⟩
  exact ⟨anns [], kcast (vc44 w id x h) (by kernel_rfl)⟩

noncomputable def code52 : Code := match Try.f52.body with | some c => c | none => .skip
set_option maxHeartbeats 4000000 in
theorem vc52 : ∀ (w : Whl) (id : Int), okW w → sw (!(midx w.ks id).isSome) ((w.l.length = (cancelW (Whl.mk (timsOf (D.recs (2 : Nat) w.l.length (timCell w.l))) w.ks) id).fst.l.length ∧
  ∀ (i : Nat), i < w.l.length → ∀ (j : Nat), j < (2 : Nat) → timCell w.l i j = timCell (cancelW (Whl.mk (timsOf (D.recs (2 : Nat) w.l.length (timCell w.l))) w.ks) id).fst.l i j) ∧
  w.ks = (cancelW (Whl.mk (timsOf (D.recs (2 : Nat) w.l.length (timCell w.l))) w.ks) id).fst.ks ∧ posL w = posL (cancelW (Whl.mk (timsOf (D.recs (2 : Nat) w.l.length (timCell w.l))) w.ks) id).fst ∧
  (8 : Int) = (cancelW (Whl.mk (timsOf (D.recs (2 : Nat) w.l.length (timCell w.l))) w.ks) id).snd ∧ (!(Nat.beq (0 : Nat) (2 : Nat) || (Nat.beq (1 : Nat) (2 : Nat) || false)) && (!(Nat.beq (1 : Nat) (0 : Nat) || false) && (!false && true)) && true) = true) ((∃ (w_1 : Whl), ∃ (i : Nat), [O.ifc (186 : Nat) (O.ptr (183 : Nat) [O.own (99 : Nat) (D.recs (2 : Nat) w.l.length (timCell w.l)), O.map (Col.ints IntKind.i64 w.ks) (Col.ints IntKind.i64 (posL w))]), O.d (D.v (Value.int IntKind.i64 ((oget (posL w) (midx w.ks id)).getD (0 : Int))))] = [O.ifc (186 : Nat) (O.ptr (183 : Nat) [O.own (99 : Nat) (D.recs (2 : Nat) w_1.l.length (timCell w_1.l)), O.map (Col.ints IntKind.i64 w_1.ks) (Col.ints IntKind.i64 (posL w_1))]), O.d (D.v (Value.int IntKind.i64 (↑i : Int)))] ∧
  okW w_1 ∧ i < w_1.l.length) ∧ ((cutT (timsOf (D.recs (2 : Nat) w.l.length (timCell w.l))) ((oget (posL w) (midx w.ks id)).getD (0 : Int)).toNat).length = (cancelW (Whl.mk (timsOf (D.recs (2 : Nat) w.l.length (timCell w.l))) w.ks) id).fst.l.length ∧
  ∀ (i : Nat), i < (cutT (timsOf (D.recs (2 : Nat) w.l.length (timCell w.l))) ((oget (posL w) (midx w.ks id)).getD (0 : Int)).toNat).length → ∀ (j : Nat), j < (2 : Nat) →
  timCell (cutT (timsOf (D.recs (2 : Nat) w.l.length (timCell w.l))) ((oget (posL w) (midx w.ks id)).getD (0 : Int)).toNat) i j = timCell (cancelW (Whl.mk (timsOf (D.recs (2 : Nat) w.l.length (timCell w.l))) w.ks) id).fst.l i j) ∧
  w.ks.erase (tf (timsOf (D.recs (2 : Nat) w.l.length (timCell w.l))) ((oget (posL w) (midx w.ks id)).getD (0 : Int)).toNat).id = (cancelW (Whl.mk (timsOf (D.recs (2 : Nat) w.l.length (timCell w.l))) w.ks) id).fst.ks ∧
  posL (Whl.mk (cutT (timsOf (D.recs (2 : Nat) w.l.length (timCell w.l))) ((oget (posL w) (midx w.ks id)).getD (0 : Int)).toNat) (w.ks.erase (tf (timsOf (D.recs (2 : Nat) w.l.length (timCell w.l))) ((oget (posL w) (midx w.ks id)).getD (0 : Int)).toNat).id)) = posL (cancelW (Whl.mk (timsOf (D.recs (2 : Nat) w.l.length (timCell w.l))) w.ks) id).fst ∧
  (0 : Int) = (cancelW (Whl.mk (timsOf (D.recs (2 : Nat) w.l.length (timCell w.l))) w.ks) id).snd ∧ (!(Nat.beq (3 : Nat) (2 : Nat) || (Nat.beq (4 : Nat) (2 : Nat) || false)) && (!(Nat.beq (4 : Nat) (3 : Nat) || false) && (!false && true)) && true) = true) := by
  simp only [↓sw_iff, ↓Bool.and_eq_true, ↓Bool.not_eq_true', ↓Bool.not_eq_false', and_true, Bool.or_false, Nat.beq, timsOf_cell]
  intro w id h
  refine ⟨fun hk => ?_, fun hk => ?_⟩
  · have e : cancelW ⟨w.l, w.ks⟩ id = (w, 8) := if_neg (midx_not hk)
    rw [e]
    exact ⟨⟨rfl, fun _ _ _ _ => rfl⟩, rfl, rfl, rfl⟩
  · have hm := midx_mem hk
    have hlt := posI_lt (h.2.1.mem_iff.1 hm)
    have hid := posI_id (h.2.1.mem_iff.1 hm)
    have e : cancelW ⟨w.l, w.ks⟩ id = (⟨cutT w.l (posI w.l id).toNat, w.ks.erase id⟩, 0) := if_pos hm
    rw [midx_pos hm, e, hid]
    exact ⟨⟨w, (posI w.l id).toNat, by rw [← posI_nat], h, hlt⟩, ⟨rfl, fun _ _ _ _ => rfl⟩, rfl, rfl, rfl⟩
set_option maxRecDepth 100000 in
theorem ok52 : FnIs Try.prog 52 cancelC := by
  refine fnIs (C := (ctrs w5)) (by kernel_rfl) w5_ok Try.func52 (code := code52) (by kernel_rfl) (by kernel_rfl) ?_
  rintro a ⟨w, id, rfl, h⟩
  exact ⟨anns [], kcast (vc52 w id h) (by kernel_rfl)⟩

noncomputable def code45 : Code := match Try.f45.body with | some c => c | none => .skip
set_option maxHeartbeats 4000000 in
theorem vc45 : ∀ (w : Whl) (now : Int), okW w → ∃ (g0 : List Tim × Whl), (okW g0.snd ∧ g0.fst.length + g0.snd.l.length ≤ (4096 : Nat) ∧ (g0.fst ++ (dueW g0.snd now).fst, (dueW g0.snd now).snd) = dueW w now) ∧
  g0.fst.length = (0 : Nat) ∧ (w.l.length = g0.snd.l.length ∧ ∀ (i : Nat), i < w.l.length → ∀ (j : Nat), j < (2 : Nat) → timCell w.l i j = timCell g0.snd.l i j) ∧
  w.ks = g0.snd.ks ∧ posL w = posL g0.snd ∧ (!(Nat.beq (0 : Nat) (2 : Nat) || (Nat.beq (1 : Nat) (2 : Nat) || false)) && (!(Nat.beq (1 : Nat) (0 : Nat) || false) && (!false && true)) && true) = true ∧
  ∀ (g : List Tim × Whl), okW g.snd ∧ g.fst.length + g.snd.l.length ≤ (4096 : Nat) ∧ (g.fst ++ (dueW g.snd now).fst, (dueW g.snd now).snd) = dueW w now →
  (∃ (w_1 : Whl), [O.ptr (183 : Nat) [O.own (99 : Nat) (D.recs (2 : Nat) g.snd.l.length (timCell g.snd.l)), O.map (Col.ints IntKind.i64 g.snd.ks) (Col.ints IntKind.i64 (posL g.snd))]] = [O.ptr (183 : Nat) [O.own (99 : Nat) (D.recs (2 : Nat) w_1.l.length (timCell w_1.l)), O.map (Col.ints IntKind.i64 w_1.ks) (Col.ints IntKind.i64 (posL w_1))]] ∧
  okW w_1) ∧ sw (!!decide ((timsOf (D.recs (2 : Nat) g.snd.l.length (timCell g.snd.l))).length = (0 : Nat))) (((timsOf (D.recs (2 : Nat) g.snd.l.length (timCell g.snd.l))).length = (dueW (Whl.mk (timsOf (D.recs (2 : Nat) w.l.length (timCell w.l))) w.ks) now).snd.l.length ∧
  ∀ (i : Nat), i < (timsOf (D.recs (2 : Nat) g.snd.l.length (timCell g.snd.l))).length → ∀ (j : Nat), j < (2 : Nat) → timCell (timsOf (D.recs (2 : Nat) g.snd.l.length (timCell g.snd.l))) i j = timCell (dueW (Whl.mk (timsOf (D.recs (2 : Nat) w.l.length (timCell w.l))) w.ks) now).snd.l i j) ∧
  g.snd.ks = (dueW (Whl.mk (timsOf (D.recs (2 : Nat) w.l.length (timCell w.l))) w.ks) now).snd.ks ∧ posL (Whl.mk (timsOf (D.recs (2 : Nat) g.snd.l.length (timCell g.snd.l))) g.snd.ks) = posL (dueW (Whl.mk (timsOf (D.recs (2 : Nat) w.l.length (timCell w.l))) w.ks) now).snd ∧
  (g.fst.length = (dueW (Whl.mk (timsOf (D.recs (2 : Nat) w.l.length (timCell w.l))) w.ks) now).fst.length ∧ ∀ (i : Nat), i < g.fst.length → ∀ (j : Nat), j < (2 : Nat) →
  timCell g.fst i j = timCell (dueW (Whl.mk (timsOf (D.recs (2 : Nat) w.l.length (timCell w.l))) w.ks) now).fst i j) ∧ (!(Nat.beq (6 : Nat) (2 : Nat) || (Nat.beq (7 : Nat) (2 : Nat) || (Nat.beq (3 : Nat) (2 : Nat) || false))) && (!(Nat.beq (7 : Nat) (6 : Nat) || (Nat.beq (3 : Nat) (6 : Nat) || false)) && (!(Nat.beq (3 : Nat) (7 : Nat) || false) && (!false && true))) && true) = true) (True ∧
  sw (decide (now < (tf (timsOf (D.recs (2 : Nat) g.snd.l.length (timCell g.snd.l))) (0 : Nat)).at_)) (((timsOf (D.recs (2 : Nat) g.snd.l.length (timCell g.snd.l))).length = (dueW (Whl.mk (timsOf (D.recs (2 : Nat) w.l.length (timCell w.l))) w.ks) now).snd.l.length ∧
  ∀ (i : Nat), i < (timsOf (D.recs (2 : Nat) g.snd.l.length (timCell g.snd.l))).length → ∀ (j : Nat), j < (2 : Nat) → timCell (timsOf (D.recs (2 : Nat) g.snd.l.length (timCell g.snd.l))) i j = timCell (dueW (Whl.mk (timsOf (D.recs (2 : Nat) w.l.length (timCell w.l))) w.ks) now).snd.l i j) ∧
  g.snd.ks = (dueW (Whl.mk (timsOf (D.recs (2 : Nat) w.l.length (timCell w.l))) w.ks) now).snd.ks ∧ posL (Whl.mk (timsOf (D.recs (2 : Nat) g.snd.l.length (timCell g.snd.l))) g.snd.ks) = posL (dueW (Whl.mk (timsOf (D.recs (2 : Nat) w.l.length (timCell w.l))) w.ks) now).snd ∧
  (g.fst.length = (dueW (Whl.mk (timsOf (D.recs (2 : Nat) w.l.length (timCell w.l))) w.ks) now).fst.length ∧ ∀ (i : Nat), i < g.fst.length → ∀ (j : Nat), j < (2 : Nat) →
  timCell g.fst i j = timCell (dueW (Whl.mk (timsOf (D.recs (2 : Nat) w.l.length (timCell w.l))) w.ks) now).fst i j) ∧ (!(Nat.beq (6 : Nat) (2 : Nat) || (Nat.beq (7 : Nat) (2 : Nat) || (Nat.beq (3 : Nat) (2 : Nat) || false))) && (!(Nat.beq (7 : Nat) (6 : Nat) || (Nat.beq (3 : Nat) (6 : Nat) || false)) && (!(Nat.beq (3 : Nat) (7 : Nat) || false) && (!false && true))) && true) = true) ((∃ (w_1 : Whl), [O.ifc (186 : Nat) (O.ptr (183 : Nat) [O.own (99 : Nat) (D.recs (2 : Nat) (timsOf (D.recs (2 : Nat) g.snd.l.length (timCell g.snd.l))).length (timCell (timsOf (D.recs (2 : Nat) g.snd.l.length (timCell g.snd.l))))), O.map (Col.ints IntKind.i64 g.snd.ks) (Col.ints IntKind.i64 (posL (Whl.mk (timsOf (D.recs (2 : Nat) g.snd.l.length (timCell g.snd.l))) g.snd.ks)))])] = [O.ifc (186 : Nat) (O.ptr (183 : Nat) [O.own (99 : Nat) (D.recs (2 : Nat) w_1.l.length (timCell w_1.l)), O.map (Col.ints IntKind.i64 w_1.ks) (Col.ints IntKind.i64 (posL w_1))])] ∧
  okW w_1 ∧ (0 : Nat) < w_1.l.length) ∧ True ∧ (g.fst.length + (1 : Nat)) * Try.prog.types[(99 : Nat)].bytes ≤ (140737488355328 : Nat) ∧ ∃ (g' : List Tim × Whl), (okW g'.snd ∧
  g'.fst.length + g'.snd.l.length ≤ (4096 : Nat) ∧ (g'.fst ++ (dueW g'.snd now).fst, (dueW g'.snd now).snd) = dueW w now) ∧ g'.snd.l.length < g.snd.l.length ∧
  ((g.fst.length + (1 : Nat) = g'.fst.length ∧ ∀ (i : Nat), i < g.fst.length + (1 : Nat) → ∀ (j : Nat), j < (2 : Nat) → (bif i.blt g.fst.length then timCell g.fst i j else [D.v (Value.int IntKind.i64 (tf (timsOf (D.recs (2 : Nat) (timsOf (D.recs (2 : Nat) g.snd.l.length (timCell g.snd.l))).length (timCell (timsOf (D.recs (2 : Nat) g.snd.l.length (timCell g.snd.l)))))) (0 : Nat)).id), D.v (Value.int IntKind.i64 (tf (timsOf (D.recs (2 : Nat) (timsOf (D.recs (2 : Nat) g.snd.l.length (timCell g.snd.l))).length (timCell (timsOf (D.recs (2 : Nat) g.snd.l.length (timCell g.snd.l)))))) (0 : Nat)).at_)].getD ((i - g.fst.length) * Try.prog.types[(99 : Nat)].size + j) (D.v undef)) = timCell g'.fst i j) ∧
  ((popW (Whl.mk (timsOf (D.recs (2 : Nat) (timsOf (D.recs (2 : Nat) g.snd.l.length (timCell g.snd.l))).length (timCell (timsOf (D.recs (2 : Nat) g.snd.l.length (timCell g.snd.l)))))) g.snd.ks)).l.length = g'.snd.l.length ∧
  ∀ (i : Nat), i < (popW (Whl.mk (timsOf (D.recs (2 : Nat) (timsOf (D.recs (2 : Nat) g.snd.l.length (timCell g.snd.l))).length (timCell (timsOf (D.recs (2 : Nat) g.snd.l.length (timCell g.snd.l)))))) g.snd.ks)).l.length →
  ∀ (j : Nat), j < (2 : Nat) → timCell (popW (Whl.mk (timsOf (D.recs (2 : Nat) (timsOf (D.recs (2 : Nat) g.snd.l.length (timCell g.snd.l))).length (timCell (timsOf (D.recs (2 : Nat) g.snd.l.length (timCell g.snd.l)))))) g.snd.ks)).l i j = timCell g'.snd.l i j) ∧
  (popW (Whl.mk (timsOf (D.recs (2 : Nat) (timsOf (D.recs (2 : Nat) g.snd.l.length (timCell g.snd.l))).length (timCell (timsOf (D.recs (2 : Nat) g.snd.l.length (timCell g.snd.l)))))) g.snd.ks)).ks = g'.snd.ks ∧
  posL (popW (Whl.mk (timsOf (D.recs (2 : Nat) (timsOf (D.recs (2 : Nat) g.snd.l.length (timCell g.snd.l))).length (timCell (timsOf (D.recs (2 : Nat) g.snd.l.length (timCell g.snd.l)))))) g.snd.ks)) = posL g'.snd ∧
  (!(Nat.beq (2 : Nat) (12 : Nat) || (Nat.beq (9 : Nat) (12 : Nat) || (Nat.beq (10 : Nat) (12 : Nat) || false))) && (!(Nat.beq (9 : Nat) (2 : Nat) || (Nat.beq (10 : Nat) (2 : Nat) || false)) && (!(Nat.beq (10 : Nat) (9 : Nat) || false) && (!false && true))) && true && ((Nat.ble (3 : Nat) (12 : Nat) || (Nat.beq (2 : Nat) (12 : Nat) || (Nat.beq (0 : Nat) (12 : Nat) || (Nat.beq (1 : Nat) (12 : Nat) || false)))) && ((Nat.ble (3 : Nat) (2 : Nat) || (Nat.beq (2 : Nat) (2 : Nat) || (Nat.beq (0 : Nat) (2 : Nat) || (Nat.beq (1 : Nat) (2 : Nat) || false)))) && ((Nat.ble (3 : Nat) (9 : Nat) || (Nat.beq (2 : Nat) (9 : Nat) || (Nat.beq (0 : Nat) (9 : Nat) || (Nat.beq (1 : Nat) (9 : Nat) || false)))) && ((Nat.ble (3 : Nat) (10 : Nat) || (Nat.beq (2 : Nat) (10 : Nat) || (Nat.beq (0 : Nat) (10 : Nat) || (Nat.beq (1 : Nat) (10 : Nat) || false)))) && true))))) = true) ∧
  (some (SV.p (2 : Nat) (0 : Nat)) = some (SV.p (2 : Nat) (0 : Nat)) ∧ some (SV.c (Value.int IntKind.i64 now)) = some (SV.c (Value.int IntKind.i64 now)) ∧
  True) ∧ True)) := by
  simp only [↓sw_iff, ↓Bool.and_eq_true, ↓decide_eq_true_eq, ↓decide_eq_false_iff_not, ↓Bool.not_eq_true', ↓Bool.not_eq_false', true_and, and_true, Bool.or_false, Bool.false_or, Nat.ble, Nat.beq, timsOf_cell]
  intro w now h
  refine ⟨([], w), ⟨h, by simpa using h.2.2, rfl⟩, rfl, ⟨rfl, fun _ _ _ _ => rfl⟩, rfl, rfl, ?_⟩
  rintro ⟨out, v⟩ ⟨h1, h2, h3⟩
  simp only at h1 h2 h3 ⊢
  have hd : dueW ⟨w.l, w.ks⟩ now = dueW w now := rfl
  rw [hd, ← h3]
  have stop : dueW v now = ([], v) → (v.l.length = (dueW v now).2.l.length ∧ ∀ (i : Nat), i < v.l.length → ∀ (j : Nat), j < 2 → timCell v.l i j = timCell (dueW v now).2.l i j) ∧ v.ks = (dueW v now).2.ks ∧ posL v = posL (dueW v now).2 ∧
      out.length = (out ++ (dueW v now).1).length ∧ ∀ (i : Nat), i < out.length → ∀ (j : Nat), j < 2 → timCell out i j = timCell (out ++ (dueW v now).1) i j := fun e => by
    rw [e, List.append_nil]
    exact ⟨⟨rfl, fun _ _ _ _ => rfl⟩, rfl, rfl, rfl, fun _ _ _ _ => rfl⟩
  refine ⟨⟨v, rfl, h1⟩, fun h0 => stop (dueW_stop (.inl h0)), fun h0 => ⟨fun hl => stop (dueW_stop (.inr hl)), fun hl => ⟨⟨v, rfl, h1, by omega⟩, ?_, (out ++ [tf v.l 0], popW v), ⟨popW_ok h1 (by omega), ?_, ?_⟩, ?_, ⟨?_, ?_⟩, ⟨rfl, fun _ _ _ _ => rfl⟩, rfl, rfl⟩⟩⟩
  · rw [bytes99]; omega
  · have : (popW v).l.length = v.l.length - 1 := popT_len v.l
    simp only [List.length_append, List.length_cons, List.length_nil, this]
    omega
  · have e := dueW_step (w := v) (now := now) (by omega)
    rw [e] at h3 ⊢
    simp only [List.append_assoc, List.cons_append, List.nil_append]
  · show (popT v.l).length < _
    rw [popT_len]; omega
  · simp only [List.length_append, List.length_cons, List.length_nil]
  · intro i hi j hj
    rw [size99]
    exact timCell_app out (tf v.l 0) hi hj
set_option maxRecDepth 100000 in
theorem ok45 : FnIs Try.prog 45 dueC := by
  refine fnIs (C := (ctrs w6)) (by kernel_rfl) w6_ok Try.func45 (code := code45) (by kernel_rfl) (by kernel_rfl) ?_
  rintro a ⟨w, now, rfl, h⟩
  exact ⟨anns [(2, dueA w now)] [3], kcast (vc45 w now h) (by kernel_rfl)⟩

end Go.ZR

set_option maxRecDepth 100000
namespace Go.ZM
instance decTim : DecidableEq Tim := fun a b =>
  if h : a.id = b.id ∧ a.at_ = b.at_ then isTrue (by cases a; cases b; simp_all) else isFalse fun e => h (by subst e; exact ⟨rfl, rfl⟩)
def sameT (l m : List Tim) : Bool := decide (l = m)
end Go.ZM
namespace Go.ZR
open Go.Z Go.ZM Go.Proofs
def timsD (l : List Tim) : O := .d (.recs 2 l.length (timCell l))
def timsOfO (x : O) : List Tim := timsOf (dO x)
def sameTC : Ctr := nC 2 false (fun a => ∃ l m : List Tim, a = [timsD l, timsD m] ∧ l.length ≤ 4096 ∧ m.length ≤ 4096) fun a => [bO (sameT (timsOfO (at_ a 0)) (timsOfO (at_ a 1)))]
def sameTA (l m : List Tim) : LoopAnn where
  γ := Nat
  pre := fun i => i ≤ l.length ∧ i ≤ m.length ∧ l.take i = m.take i
  μ := fun i => l.length - i
  items := fun i => [(5, .c (iO .i64 (i : Int)))]
def w7 : List (Nat × Ctr) := [(42, newC), (44, setC), (45, dueC)]
def ansWC : Ctr := nC 0 false (fun a => a = []) fun _ => [bO true]
end Go.ZR

namespace Go.ZR
open Go.Proofs
open Go.Z Go.ZM Go.RowKit
set_option maxRecDepth 100000
theorem w7_ok : COk Try.prog (ctrs w7) := cok_cons ok42 (cok_cons ok44 (cok_cons ok45 cok_nil))
theorem getD_tim {l : List Tim} {g : Nat} (h : g < l.length) : l[g]? = some (l.getD g noTim) := by simp [List.getD, h]
noncomputable def code47 : Code := match Try.f47.body with | some c => c | none => .skip
set_option maxHeartbeats 4000000 in
theorem vc47 : ∀ (l m : List Tim), l.length ≤ (4096 : Nat) → m.length ≤ (4096 : Nat) → ∃ (g0 : Nat), (g0 ≤ l.length ∧ g0 ≤ m.length ∧ List.take g0 l = List.take g0 m) ∧
  (0 : Int) = (↑g0 : Int) ∧ (true && true) = true ∧ ∀ (g : Nat), g ≤ l.length ∧ g ≤ m.length ∧ List.take g l = List.take g m → True ∧ sw (decide ((↑g : Int) < (↑l.length : Int))) (True ∧
  sw (decide ((↑g : Int) < (↑m.length : Int))) (((0 : Int) ≤ (↑g : Int) ∧ (↑g : Int) < (↑l.length : Int)) ∧ ((0 : Int) ≤ (↑g : Int) ∧ (↑g : Int) < (↑m.length : Int)) ∧
  sw (!(decide ((l.getD (↑g : Int).toNat noTim).id = (m.getD (↑g : Int).toNat noTim).id) && decide ((l.getD (↑g : Int).toNat noTim).at_ = (m.getD (↑g : Int).toNat noTim).at_))) (false = sameT (timsOf (D.recs (2 : Nat) l.length (timCell l))) (timsOf (D.recs (2 : Nat) m.length (timCell m))) ∧
  (true && true) = true) (True ∧ ∃ (g' : Nat), (g' ≤ l.length ∧ g' ≤ m.length ∧ List.take g' l = List.take g' m) ∧ l.length - g' < l.length - g ∧ (IntKind.i64.wrap ((↑g : Int) + (1 : Int)) = (↑g' : Int) ∧
  (true && true && true) = true) ∧ (some (SV.a (0 : Nat)) = some (SV.a (0 : Nat)) ∧ some (SV.a (1 : Nat)) = some (SV.a (1 : Nat)) ∧ True) ∧ some (R.ro (D.recs (2 : Nat) m.length (timCell m))) = some (R.ro (D.recs (2 : Nat) m.length (timCell m))) ∧
  some (R.ro (D.recs (2 : Nat) l.length (timCell l))) = some (R.ro (D.recs (2 : Nat) l.length (timCell l))) ∧ True)) (True ∧ decide ((↑l.length : Int) = (↑m.length : Int)) = sameT (timsOf (D.recs (2 : Nat) l.length (timCell l))) (timsOf (D.recs (2 : Nat) m.length (timCell m))) ∧
  (true && true) = true)) (True ∧ decide ((↑l.length : Int) = (↑m.length : Int)) = sameT (timsOf (D.recs (2 : Nat) l.length (timCell l))) (timsOf (D.recs (2 : Nat) m.length (timCell m))) ∧
  (true && true) = true) := by
  simp only [↓sw_iff, ↓Bool.and_eq_true, ↓Bool.and_eq_false_iff, ↓decide_eq_true_eq, ↓decide_eq_false_iff_not, ↓Bool.not_eq_true', ↓Bool.not_eq_false', true_and, and_true, Int.toNat_natCast, timsOf_cell, Int.toNat_natCast]
  intro l m hl hm
  refine ⟨0, ⟨Nat.zero_le _, Nat.zero_le _, rfl⟩, rfl, ?_⟩
  rintro g ⟨h1, h2, h3⟩
  refine ⟨fun a => ⟨fun b => ⟨⟨by omega, by omega⟩, ⟨by omega, by omega⟩, fun hne => ?_, fun heq => ⟨g + 1, ⟨by omega, by omega, ?_⟩, by omega, (wrap_i64_id (by omega) (by omega)).trans (by omega)⟩⟩, fun b => ?_⟩, fun b => ?_⟩
  · refine (decide_eq_false fun e => ?_).symm
    subst e
    rcases hne with h | h <;> exact h rfl
  · rw [List.take_add_one, List.take_add_one, h3, getD_tim (by omega), getD_tim (by omega), show l.getD g noTim = m.getD g noTim from Tim.mk.injEq .. |>.mpr heq]
  · rw [decide_eq_false (by omega)]
    exact (decide_eq_false fun e => by subst e; omega).symm
  · by_cases e : l.length = m.length
    · rw [decide_eq_true (by omega)]
      have hg : g = l.length := by omega
      subst hg
      rw [List.take_length, e, List.take_length] at h3
      exact (decide_eq_true h3).symm
    · rw [decide_eq_false (by omega)]
      exact (decide_eq_false fun e2 => e (by rw [e2])).symm
set_option maxRecDepth 100000 in
theorem ok47 : FnIs Try.prog 47 sameTC := by
  refine fnIs (C := (ctrs c0)) (by kernel_rfl) c0_ok Try.func47 (code := code47) (by kernel_rfl) (by kernel_rfl) ?_
  rintro a ⟨l, m, rfl, hl, hm⟩
  exact ⟨anns [(2, sameTA l m)] [2], kcast (vc47 l m hl hm) (by kernel_rfl)⟩

noncomputable def code43 : Code := match Try.f43.body with | some c => c | none => .skip
set_option maxHeartbeats 4000000 in
theorem vc43 : ([] : List O) = [] ∧ (∃ (w : Whl), ∃ (id : Int), ∃ (x : Int), [O.ptr (183 : Nat) [O.own (99 : Nat) (D.recs (2 : Nat) noW.l.length (timCell noW.l)), O.map (Col.ints IntKind.i64 noW.ks) (Col.ints IntKind.i64 (posL noW))], O.d (D.v (Value.int IntKind.i64 (3 : Int))), O.d (D.v (Value.int IntKind.i64 (9 : Int)))] = [O.ptr (183 : Nat) [O.own (99 : Nat) (D.recs (2 : Nat) w.l.length (timCell w.l)), O.map (Col.ints IntKind.i64 w.ks) (Col.ints IntKind.i64 (posL w))], O.d (D.v (Value.int IntKind.i64 id)), O.d (D.v (Value.int IntKind.i64 x))] ∧
  okW w) ∧ True ∧ (∃ (w : Whl), ∃ (id : Int), ∃ (x : Int), [O.ptr (183 : Nat) [O.own (99 : Nat) (D.recs (2 : Nat) (setW (Whl.mk (timsOf (D.recs (2 : Nat) noW.l.length (timCell noW.l))) noW.ks) (3 : Int) (9 : Int)).fst.l.length (timCell (setW (Whl.mk (timsOf (D.recs (2 : Nat) noW.l.length (timCell noW.l))) noW.ks) (3 : Int) (9 : Int)).fst.l)), O.map (Col.ints IntKind.i64 (setW (Whl.mk (timsOf (D.recs (2 : Nat) noW.l.length (timCell noW.l))) noW.ks) (3 : Int) (9 : Int)).fst.ks) (Col.ints IntKind.i64 (posL (setW (Whl.mk (timsOf (D.recs (2 : Nat) noW.l.length (timCell noW.l))) noW.ks) (3 : Int) (9 : Int)).fst))], O.d (D.v (Value.int IntKind.i64 (2 : Int))), O.d (D.v (Value.int IntKind.i64 (4 : Int)))] = [O.ptr (183 : Nat) [O.own (99 : Nat) (D.recs (2 : Nat) w.l.length (timCell w.l)), O.map (Col.ints IntKind.i64 w.ks) (Col.ints IntKind.i64 (posL w))], O.d (D.v (Value.int IntKind.i64 id)), O.d (D.v (Value.int IntKind.i64 x))] ∧
  okW w) ∧ True ∧ (∃ (w : Whl), ∃ (now : Int), [O.ptr (183 : Nat) [O.own (99 : Nat) (D.recs (2 : Nat) (setW (Whl.mk (timsOf (D.recs (2 : Nat) (setW (Whl.mk (timsOf (D.recs (2 : Nat) noW.l.length (timCell noW.l))) noW.ks) (3 : Int) (9 : Int)).fst.l.length (timCell (setW (Whl.mk (timsOf (D.recs (2 : Nat) noW.l.length (timCell noW.l))) noW.ks) (3 : Int) (9 : Int)).fst.l))) (setW (Whl.mk (timsOf (D.recs (2 : Nat) noW.l.length (timCell noW.l))) noW.ks) (3 : Int) (9 : Int)).fst.ks) (2 : Int) (4 : Int)).fst.l.length (timCell (setW (Whl.mk (timsOf (D.recs (2 : Nat) (setW (Whl.mk (timsOf (D.recs (2 : Nat) noW.l.length (timCell noW.l))) noW.ks) (3 : Int) (9 : Int)).fst.l.length (timCell (setW (Whl.mk (timsOf (D.recs (2 : Nat) noW.l.length (timCell noW.l))) noW.ks) (3 : Int) (9 : Int)).fst.l))) (setW (Whl.mk (timsOf (D.recs (2 : Nat) noW.l.length (timCell noW.l))) noW.ks) (3 : Int) (9 : Int)).fst.ks) (2 : Int) (4 : Int)).fst.l)), O.map (Col.ints IntKind.i64 (setW (Whl.mk (timsOf (D.recs (2 : Nat) (setW (Whl.mk (timsOf (D.recs (2 : Nat) noW.l.length (timCell noW.l))) noW.ks) (3 : Int) (9 : Int)).fst.l.length (timCell (setW (Whl.mk (timsOf (D.recs (2 : Nat) noW.l.length (timCell noW.l))) noW.ks) (3 : Int) (9 : Int)).fst.l))) (setW (Whl.mk (timsOf (D.recs (2 : Nat) noW.l.length (timCell noW.l))) noW.ks) (3 : Int) (9 : Int)).fst.ks) (2 : Int) (4 : Int)).fst.ks) (Col.ints IntKind.i64 (posL (setW (Whl.mk (timsOf (D.recs (2 : Nat) (setW (Whl.mk (timsOf (D.recs (2 : Nat) noW.l.length (timCell noW.l))) noW.ks) (3 : Int) (9 : Int)).fst.l.length (timCell (setW (Whl.mk (timsOf (D.recs (2 : Nat) noW.l.length (timCell noW.l))) noW.ks) (3 : Int) (9 : Int)).fst.l))) (setW (Whl.mk (timsOf (D.recs (2 : Nat) noW.l.length (timCell noW.l))) noW.ks) (3 : Int) (9 : Int)).fst.ks) (2 : Int) (4 : Int)).fst))], O.d (D.v (Value.int IntKind.i64 (8 : Int)))] = [O.ptr (183 : Nat) [O.own (99 : Nat) (D.recs (2 : Nat) w.l.length (timCell w.l)), O.map (Col.ints IntKind.i64 w.ks) (Col.ints IntKind.i64 (posL w))], O.d (D.v (Value.int IntKind.i64 now))] ∧
  okW w) ∧ True ∧ decide ((↑(dueW (Whl.mk (timsOf (D.recs (2 : Nat) (setW (Whl.mk (timsOf (D.recs (2 : Nat) (setW (Whl.mk (timsOf (D.recs (2 : Nat) noW.l.length (timCell noW.l))) noW.ks) (3 : Int) (9 : Int)).fst.l.length (timCell (setW (Whl.mk (timsOf (D.recs (2 : Nat) noW.l.length (timCell noW.l))) noW.ks) (3 : Int) (9 : Int)).fst.l))) (setW (Whl.mk (timsOf (D.recs (2 : Nat) noW.l.length (timCell noW.l))) noW.ks) (3 : Int) (9 : Int)).fst.ks) (2 : Int) (4 : Int)).fst.l.length (timCell (setW (Whl.mk (timsOf (D.recs (2 : Nat) (setW (Whl.mk (timsOf (D.recs (2 : Nat) noW.l.length (timCell noW.l))) noW.ks) (3 : Int) (9 : Int)).fst.l.length (timCell (setW (Whl.mk (timsOf (D.recs (2 : Nat) noW.l.length (timCell noW.l))) noW.ks) (3 : Int) (9 : Int)).fst.l))) (setW (Whl.mk (timsOf (D.recs (2 : Nat) noW.l.length (timCell noW.l))) noW.ks) (3 : Int) (9 : Int)).fst.ks) (2 : Int) (4 : Int)).fst.l))) (setW (Whl.mk (timsOf (D.recs (2 : Nat) (setW (Whl.mk (timsOf (D.recs (2 : Nat) noW.l.length (timCell noW.l))) noW.ks) (3 : Int) (9 : Int)).fst.l.length (timCell (setW (Whl.mk (timsOf (D.recs (2 : Nat) noW.l.length (timCell noW.l))) noW.ks) (3 : Int) (9 : Int)).fst.l))) (setW (Whl.mk (timsOf (D.recs (2 : Nat) noW.l.length (timCell noW.l))) noW.ks) (3 : Int) (9 : Int)).fst.ks) (2 : Int) (4 : Int)).fst.ks) (8 : Int)).fst.length : Int) = (1 : Int)) = true ∧
  (true && true) = true := by
  have r1 : Rep (setW noW 3 9).1 [⟨3, 9⟩] := (setW_new Rep.new (id := 3) (a := 9) (by decide) (by decide) (by simp) (by decide)).2
  have r2 : Rep (setW (setW noW 3 9).1 2 4).1 [⟨3, 9⟩, ⟨2, 4⟩] := (setW_new r1 (id := 2) (a := 4) (by decide) (by decide) (by simp) (by decide)).2
  have r3 : (dueW (setW (setW noW 3 9).1 2 4).1 8).1.length = 1 := by
    rw [(due_rep r2 8).2.1.length_eq]
    rfl
  simp only [↓Bool.and_eq_true, ↓decide_eq_true_eq, true_and, and_true, timsOf_cell]
  refine ⟨⟨noW, 3, 9, rfl, Rep.new.ok⟩, ⟨(setW noW 3 9).1, 2, 4, rfl, r1.ok⟩, ⟨(setW (setW noW 3 9).1 2 4).1, 8, rfl, r2.ok⟩, ?_⟩
  show ((dueW (setW (setW noW 3 9).1 2 4).1 8).1.length : Int) = 1
  rw [r3]
  rfl
set_option maxRecDepth 100000 in
theorem ok43 : FnIs Try.prog 43 ansWC := by
  refine fnIs (C := (ctrs w7)) (by kernel_rfl) w7_ok Try.func43 (code := code43) (by kernel_rfl) (by kernel_rfl) ?_
  rintro a rfl
  exact ⟨anns [] [2], kcast (vc43) (by kernel_rfl)⟩

end Go.ZR

namespace Go.Proofs.Ytlbfenfepmmihaa
open Go.Proofs
open Go.RowKit Go.Maps Go.Sort Go.Shelf
attribute [local go_sem] Oper.semAt_some

def encT (t : Int × Int) : List Value := [.int .i64 t.1, .int .i64 t.2]
def CellsOf (n0 : Nat) (W : World) (p : Option Addr) (l : List (Int × Int)) : Prop :=
  ∀ i t, l[i]? = some t → ∃ b o, p = some ⟨b, o, none⟩ ∧ b < n0 ∧ W.cell? ⟨b, o + i * 2, none⟩ = some (.int .i64 t.1) ∧ W.cell? ⟨b, o + i * 2 + 1, none⟩ = some (.int .i64 t.2)
theorem CellsOf.below {n0 : Nat} {A B : World} {p : Option Addr} {l : List (Int × Int)} (hB : Below n0 A B) (h : CellsOf n0 A p l) : CellsOf n0 B p l := fun i t ht => by
  obtain ⟨b, o, h1, h2, h3, h4⟩ := h i t ht
  exact ⟨b, o, h1, h2, (hB.cell (p := ⟨b, o + i * 2, none⟩) h2).trans h3, (hB.cell (p := ⟨b, o + i * 2 + 1, none⟩) h2).trans h4⟩

set_option maxRecDepth 100000 in
set_option maxHeartbeats 1000000 in
theorem Try.values_stops (n : Nat) (hn : 1 ≤ n) (Bs n0 : Nat) (p : Option Addr) (cap : Nat) (l : List (Int × Int)) (w : World) (hBs : Bs < w.heap.size) (hn0 : n0 ≤ w.heap.size) (hlen : l.length ≤ 4096)
    (hs : w.cell? ⟨Bs, 0, none⟩ = some (.slice p l.length cap)) (hl : CellsOf n0 w p l) :
    SeqStopsK Fence.wide n Try.prog 137 #[.pointer (some ⟨Bs, 0, none⟩)] (fun t : Int × Int => #[Value.agg #[.int .i64 t.1, .int .i64 t.2]]) (Below n0) (fun xs => xs = l) (fun _ => True) l.length w := by
  intro lp J Jx W hW hJ hJx hY h0
  have hs' : W.cell? ⟨Bs, 0, none⟩ = some (.slice p l.length cap) := (hW.cell (p := ⟨Bs, 0, none⟩) hBs).trans hs
  have hl' := hl.below (hW.mono hn0)
  refine callsIn_of_wp Try.func137 rfl trivial ?_ rfl
  simp only [Try.ntmps137, List.size_toArray, List.length_cons, List.length_nil, Nat.reduceAdd, Nat.reduceSub, Array.replicate_succ, Array.replicate_zero, List.push_toArray, List.append_toArray, List.nil_append, List.cons_append]
  gi_wp2
  gi_loopw [7] (fun q wr => ∃ i : Nat, q = .int .i64 (i : Int) ∧ i ≤ l.length ∧ J (l.take i) wr ∧ Below n0 W wr) (fun q _ => l.length - (match q with | .int _ i => i.toNat | _ => 0))
  case atStart => exact ⟨0, rfl, Nat.zero_le _, h0, Below.refl _ _⟩
  case round =>
    obtain ⟨i, rfl, hi, hJi, hBi⟩ := hrel
    by_cases hlt : i < l.length
    · obtain ⟨t, ht⟩ : ∃ t, l[i]? = some t := ⟨_, List.getElem?_eq_getElem hlt⟩
      obtain ⟨b, o, rfl, hb, c1, c2⟩ := hl'.below hBi i t ht
      have htk : l.take i ++ [t] = l.take (i + 1) := by rw [List.take_add_one, ht]; rfl
      have hJ2 : J (l.take i) (wr.alloc (.cells #[.int .i64 t.1, .int .i64 t.2] 99)) := by
        have hb := (Below.refl wr.heap.size wr).alloc (Nat.le_refl _) (.cells #[.int .i64 t.1, .int .i64 t.2] 99)
        exact hJ _ wr _ none hJi ⟨hb.os, hb.tape, hb.output, hb.size, fun k hk _ => hb.block k hk⟩ (fun r e => by cases e)
      obtain ⟨fn, tmps, assign, body, hy, hR⟩ := hY (l.take i) t _ hJ2 (by rw [List.length_take]; omega)
      have hw : IntKind.i64.wrap ((i : Int) + 1) = ((i + 1 : Nat) : Int) := by rw [IntKind.wrap_i64]; omega
      have hba : Below n0 wr (wr.alloc (.cells #[.int .i64 t.1, .int .i64 t.2] 99)) := (Below.refl _ wr).alloc (Nat.le_trans (Nat.le_trans hn0 hW.size) hBi.size) _
      gi_wp2
      refine hR.mono ?_
      rintro e W3 (⟨rfl, hJ3, hk3⟩ | ⟨rfl, hJx3⟩)
      · gi_wp2
        go_roundw
        case rel => exact ⟨i + 1, by first | rw [hw] | rfl, by omega, by rw [← htk]; exact hJ3, hBi.trans (hba.trans hk3)⟩
        case measure =>
          simp
          omega
      · gi_wp2
        refine bodyPost_ret (results_none rfl _ _ _) rfl ?_
        exact ⟨⟨_, rfl⟩, .inr ⟨_, trivial, hJx3⟩⟩
    · obtain rfl : i = l.length := by omega
      rw [List.take_length] at hJi
      gi_wp2
      go_end0
      exact ⟨⟨_, rfl⟩, .inl ⟨l, rfl, hJi⟩⟩
end Go.Proofs.Ytlbfenfepmmihaa

namespace Go.Proofs.Ytlbfenfepmmihaa
open Go.Proofs
open Go.RowKit Go.Maps Go.Sort Go.Shelf
attribute [local go_sem] Oper.semAt_some

theorem Try.info99p : (Try.prog.info? 99).map (fun i => (i.zero, i.size, i.bytes)) = some (some (.agg #[.int .i64 0, .int .i64 0]), 2, 16) := by kernel_rfl
theorem flat_len (l : List (Int × Int)) : (l.flatMap encT).length = l.length * 2 := by
  induction l with
  | nil => rfl
  | cons t l ih => simp only [List.flatMap_cons, List.length_append, List.length_cons, ih, encT, List.length_nil]; omega
def BlockIs (W : World) (B : Nat) (t : Int × Int) : Prop := W.heap[B]? = some (.cells #[.int .i64 t.1, .int .i64 t.2] 99 (0, 0))
theorem blockIs_from {n0 B : Nat} {t : Int × Int} : OwnFrom n0 (fun (_ : Unit) W => BlockIs W B t) := by
  intro s W W' row hs hg hr
  have hlt := (Array.getElem?_eq_some_iff.1 hs).1
  refine (hg.block B hlt fun e => ?_).trans hs
  obtain ⟨_, o, ho, hc⟩ := hr B e.symm
  rw [show W.heap[B]? = _ from hs] at ho
  cases ho; cases hc

set_option maxRecDepth 100000 in
set_option maxHeartbeats 2000000 in
theorem Try.appendSeqT (n : Nat) (hn : 2 ≤ n) (g : Nat) (lb : Array Value) (eg : ∀ args w, (callFunc g args).run Try.prog w = .ok (.enter g args) w) (l : List (Int × Int)) (hl : l.length ≤ 4096) (n0 : Nat) (w : World) (hn0 : n0 ≤ w.heap.size)
    (hseq : SeqStopsK Fence.wide (n - 1) Try.prog g lb (fun t : Int × Int => #[Value.agg #[.int .i64 t.1, .int .i64 t.2]]) (Below n0) (fun xs => xs = l) (fun _ => True) l.length w) :
    CallsIn Fence.wide n Try.prog 181 #[.slice none 0 0, .func (.func g) #[] lb] w fun e W' => ∃ (v : Value), e = .returned v ∧ W'.ownsRow w.heap.size 99 2 v l.length (l.flatMap encT) ∧ (v = .slice none 0 0 ↔ l = []) ∧ Below w.heap.size w W' := by
  have h1 : 1 ≤ n := by omega
  obtain ⟨i0, hi, hz0, hz1, hz2⟩ := info_parts Try.info99p
  refine callsIn_of_wp_marks Try.func181 rfl trivial ?_ rfl
  simp only [Try.ntmps181, List.size_toArray, List.length_cons, List.length_nil, Nat.reduceAdd, Nat.reduceSub, Array.replicate_succ, Array.replicate_zero, List.push_toArray, List.append_toArray, List.nil_append, List.cons_append]
  gi_wp2
  have bO := Boxed.new w 96 (.slice none 0 0)
  have hB0 : Below w.heap.size w (w.alloc (.cells #[.slice none 0 0] 96)) := (Below.refl _ w).alloc (Nat.le_refl _) _
  refine wpIn_rangeFunc_ownH rfl h1 (gf := g) (lb := lb) rfl trivial eg
    hseq belowK_t (belowK_b (by simp only [World.size_alloc]; omega)) hB0 (fun _ => rfl)
    (fun pre W => (∃ v, Boxed W w.heap.size 96 v ∧ W.ownsRow w.heap.size 99 2 v pre.length (pre.flatMap encT) ∧ (v = .slice none 0 0 ↔ pre = [])) ∧ Below w.heap.size w W)
    (fun _ _ _ => False)
    (OwnFrom.and (Own.from (holdsRow_own w.heap.size w.heap.size 96 99 2 (fun pre : List (Int × Int) => pre.length) (fun pre => pre.flatMap encT) (fun pre v => v = .slice none 0 0 ↔ pre = [])) _) (ownFrom_below (Nat.le_refl _) (by simp)))
    (fun _ _ _ _ _ hs _ _ => hs)
    ⟨⟨_, bO, World.ownsRow_nil _ _ _ _, by simp⟩, hB0⟩
    (fun x a' W => ∃ Bx, w.heap.size < Bx ∧ BlockIs W Bx x ∧ a' = { tmps := #[.slice none 0 0, .func (.func g) #[] lb, .pointer (some ⟨w.heap.size, 0, none⟩), undef, .slice none 0 0, .pointer (some ⟨Bx, 0, none⟩), .func (.func g) #[] lb, .agg #[.int .i64 x.1, .int .i64 x.2], undef, undef, undef, undef, undef], defers := [] })
    (fun x a' s X Y row hs hg hr => by
      obtain ⟨Bx, h1, h2, h3⟩ := hs
      exact ⟨Bx, h1, blockIs_from () X Y row h2 hg hr, h3⟩)
    ?assign ?body ?done ?stop
  case assign =>
    rintro lp pre x W K ⟨⟨v, hv, hrow, hnil⟩, hB⟩ hK
    gi_wp2
    exact hK _ _ ((KeepsOthers.alloc _ _).from _) ((Below.refl _ W).alloc (Nat.le_trans hn0 hB.size) _) ⟨⟨v, hv.alloc _, hrow.alloc _, hnil⟩, hB.alloc hB.size _⟩ ⟨W.heap.size, hv.lt, World.alloc_heap_new W _, rfl⟩
  case body =>
    rintro lp pre x a' W hlp hr ⟨⟨v, hv, hrow, hnil⟩, hB⟩ ⟨Bx, hBx, hX, rfl⟩ hlt
    have hc := hv.cell
    have c0 : W.cell? ⟨Bx, 0, none⟩ = some (.int .i64 x.1) := by simp [World.cell?, show W.heap[Bx]? = _ from hX]
    have c1 : W.cell? ⟨Bx, 1, none⟩ = some (.int .i64 x.2) := by simp [World.cell?, show W.heap[Bx]? = _ from hX]
    gi_wp2_with (gi_at_builtin; refine wpListIn_append_own _ rfl _ _ 96 rfl w.heap.size 99 i0 (.agg #[.int .i64 0, .int .i64 0]) 2 16 Try.underlying96 hi hz0 hz1 hz2 rfl (by decide) _ _ _ rfl (hrow.alloc _) ⟨W.heap.size, 0, none⟩ 1 1 [.int .i64 x.1, .int .i64 x.2] rfl rfl (cell_two_new _ _ _ _) (by simp [Value.oneCell']) (by unfold maxLen; omega) (by omega) (by have := hB.size; simp; omega) ?_; intro v' w1 hown' hgrow _; obtain ⟨g', cap', rfl⟩ := ownsRow_succ hown'; obtain ⟨hv1, hv2, hr2, hk2, hb2⟩ := hv.appended (by decide) hrow hB.size (Nat.le_refl _) hown' hgrow; have hc1 := hv1.cell; have hf1 := hv1.frozen)
    exact ⟨hk2.from _, hb2.mono hn0, ⟨_, hv2, by simpa [encT] using hr2, by simp⟩, hB.trans hb2⟩
  case done =>
    rintro D ys W hD rfl ⟨⟨v, hv, hrow, hnil⟩, hB⟩ hK
    have hc := hv.cell
    gi_wp2
    refine ⟨by simp, .inl ⟨_, _, rfl, run_takeDeferred hK, ?_⟩⟩
    exact ⟨_, results_tmp rfl _ _ _, v, rfl, ownsRow_putObj hrow _ hK rfl, hnil, hB.trans (belowK_b (w := w) (Nat.le_refl _) W D _ _ (by simp at hD; omega) hK rfl rfl)⟩
  case stop =>
    rintro D c pre W _ _ h _
    exact h.elim

theorem Try.collectT (n : Nat) (hn : 3 ≤ n) (g : Nat) (lb : Array Value) (eg : ∀ args w, (callFunc g args).run Try.prog w = .ok (.enter g args) w) (l : List (Int × Int)) (hl : l.length ≤ 4096) (n0 : Nat) (w : World) (hn0 : n0 ≤ w.heap.size)
    (hseq : SeqStopsK Fence.wide (n - 1 - 1) Try.prog g lb (fun t : Int × Int => #[Value.agg #[.int .i64 t.1, .int .i64 t.2]]) (Below n0) (fun xs => xs = l) (fun _ => True) l.length w) :
    CallsIn Fence.wide n Try.prog 135 #[.func (.func g) #[] lb] w fun e W' => ∃ (v : Value), e = .returned v ∧ W'.ownsRow w.heap.size 99 2 v l.length (l.flatMap encT) ∧ (v = .slice none 0 0 ↔ l = []) ∧ Below w.heap.size w W' := by
  have h1 : 1 ≤ n := by omega
  have hc := Try.appendSeqT (n - 1) (by omega) g lb eg l hl n0 w hn0 hseq
  have hf : Fence.wide.fn 181 := trivial
  refine callsIn_of_wp Try.func135 rfl trivial ?_ rfl
  simp only [Try.ntmps135, List.size_toArray, List.length_cons, List.length_nil, Nat.reduceAdd, Nat.reduceSub, Array.replicate_succ, Array.replicate_zero, List.push_toArray, List.append_toArray, List.nil_append, List.cons_append]
  gi_wp2_with (gi_at_call 181; refine hc.mono ?_; rintro e w' ⟨v, rfl, hrow, hnil, hb⟩)
  go_ret
  exact ⟨v, rfl, hrow, hnil, hb⟩
end Go.Proofs.Ytlbfenfepmmihaa

namespace Go.Proofs.Ytlbfenfepmmihaa
open Go.Proofs
open Go.RowKit Go.Maps Go.Sort Go.Shelf

def cmpZ (a b : Int) : Int := if a < b then -1 else if b < a then 1 else 0
def ordP (x y : Int × Int) : Int := if cmpZ x.2 y.2 ≠ 0 then cmpZ x.2 y.2 else cmpZ x.1 y.1

set_option maxRecDepth 100000 in
theorem Try.nan (x : Int) (W : World) : Calls Try.prog 183 #[.int .i64 x] W fun e w' => e = .returned (.bool false) ∧ w' = W := by
  go_enter Try.func183, Try.ntmps183
  go_wp2
  go_ret
  exact ⟨by simp, rfl⟩
set_option maxRecDepth 100000 in
theorem Try.compare (x y : Int) (W : World) : Calls Try.prog 139 #[.int .i64 x, .int .i64 y] W fun e w' => e = .returned (.int .i64 (cmpZ x y)) ∧ w' = W := by
  have h1 := Try.nan x W
  have h2 := Try.nan y W
  unfold cmpZ
  go_enter Try.func139, Try.ntmps139
  go_wp2_with (first | (go_at_call 183; refine h1.mono ?_; rintro e w' ⟨rfl, rfl⟩) | (go_at_call 183; refine h2.mono ?_; rintro e w' ⟨rfl, rfl⟩))
  all_goals go_ret
  all_goals refine ⟨?_, rfl⟩
  all_goals simp_all
  all_goals omega
set_option maxRecDepth 100000 in
theorem Try.or2 (x y : Int) (b cap : Nat) (W : World) (h0 : W.cell? ⟨b, 0, none⟩ = some (.int .i64 x)) (h1 : W.cell? ⟨b, 1, none⟩ = some (.int .i64 y)) :
    Calls Try.prog 138 #[.slice (some ⟨b, 0, none⟩) 2 cap] W fun e w' => e = .returned (.int .i64 (if x ≠ 0 then x else y)) ∧ w' = W := by
  go_enter Try.func138, Try.ntmps138
  go_wp2
  refine wp_loop_rounds 3 ?_
  rw [rounds_succ]
  by_cases hx : x = 0
  · subst hx
    go_wp2
    rw [rounds_succ]
    by_cases hy : y = 0
    · subst hy
      go_wp2
      rw [rounds_succ]
      go_wp2
      go_ret
      exact ⟨rfl, rfl⟩
    · go_wp2
      go_ret
      exact ⟨rfl, rfl⟩
  · go_wp2
    go_ret
    exact ⟨rfl, rfl⟩
set_option maxRecDepth 100000 in
theorem Try.order99 (x y : Int × Int) (W : World) : Calls Try.prog 99 #[.agg #[.int .i64 x.1, .int .i64 x.2], .agg #[.int .i64 y.1, .int .i64 y.2]] W fun e w' => e = .returned (.int .i64 (ordP x y)) ∧ ∃ q os', w' = grow (W.drewN q) os' := by
  have hc1 := fun W' => Try.compare x.2 y.2 W'
  have hc2 := fun W' => Try.compare x.1 y.1 W'
  have ho := fun b cap W' => Try.or2 (cmpZ x.2 y.2) (cmpZ x.1 y.1) b cap W'
  unfold ordP
  generalize cmpZ x.2 y.2 = r1 at hc1 ho ⊢
  generalize cmpZ x.1 y.1 = r2 at hc2 ho ⊢
  go_enter Try.func99, Try.ntmps99
  go_wp2
  have n1 := World.alloc_heap_new W (.cells #[.int .i64 x.1, .int .i64 x.2] 99)
  have n2 := World.alloc_heap_new (W.alloc (.cells #[.int .i64 x.1, .int .i64 x.2] 99)) (.cells #[.int .i64 y.1, .int .i64 y.2] 99)
  have n3 := Below.heap_alloc (W.alloc (.cells #[.int .i64 x.1, .int .i64 x.2] 99)) (.cells #[.int .i64 y.1, .int .i64 y.2] 99) W.heap.size (by simp)
  rw [n1] at n3
  rw [World.size_alloc] at n2
  have g2 : ∃ os, (W.alloc (.cells #[.int .i64 x.1, .int .i64 x.2] 99)).alloc (.cells #[.int .i64 y.1, .int .i64 y.2] 99) = grow W os := ⟨_, by rw [alloc_eq_grow, alloc_eq_grow, grow_grow]⟩
  generalize (W.alloc (.cells #[.int .i64 x.1, .int .i64 x.2] 99)).alloc (.cells #[.int .i64 y.1, .int .i64 y.2] 99) = W2 at n2 n3 g2 ⊢
  have c1 : W2.cell? ⟨W.heap.size, 0, none⟩ = some (.int .i64 x.1) := by simp [World.cell?, n3]
  have c2 : W2.cell? ⟨W.heap.size, 1, none⟩ = some (.int .i64 x.2) := by simp [World.cell?, n3]
  have c3 : W2.cell? ⟨W.heap.size + 1, 0, none⟩ = some (.int .i64 y.1) := by simp [World.cell?, n2]
  have c4 : W2.cell? ⟨W.heap.size + 1, 1, none⟩ = some (.int .i64 y.2) := by simp [World.cell?, n2]
  clear n1 n2 n3
  go_still_tail 10, (by kernel_rfl)
  still_call (hc1 _)
  repeat still_step
  still_call (hc2 _)
  repeat still_step
  refine wpStill_nil ?_
  change wpList _ _ _ _ _ W2.drew
  have g3 : ∃ q os', W2.drew = grow (W.drewN q) os' := by
    obtain ⟨os, g2⟩ := g2
    exact ⟨1, os, by rw [g2]; rfl⟩
  generalize W2.drew = w2 at g3 ⊢
  clear g2 c1 c2 c3 c4
  have k := World.alloc_heap_new w2 (.cells #[.int .i64 r1, .int .i64 r2] 3)
  have hor := ho w2.heap.size 2 (w2.alloc (.cells #[.int .i64 r1, .int .i64 r2] 3)) (by simp only [World.cell?, k]; rfl) (by simp only [World.cell?, k]; rfl)
  clear k
  go_wp2_with (go_at_call 138; refine hor.mono ?_; rintro e w' ⟨rfl, rfl⟩)
  all_goals go_ret
  all_goals
    obtain ⟨q, os', rfl⟩ := g3
    exact ⟨rfl, q, _, by rw [alloc_eq_grow, grow_grow]⟩
end Go.Proofs.Ytlbfenfepmmihaa
