/- Part 21 of what the closing text rests on. -/
import Derived.Test.YtlbfenfepmmihaaQ20
import Derived.RangeFuncBox
import Derived.RangeFuncNested
import Derived.RangeFuncBound
import Derived.RangeFuncCalls
import Derived.RangeFuncLeaves
import Derived.RangeFuncStops
import Derived.RangeFuncSeq
import Derived.Shelf.Abstract
import Derived.Shelf.AbstractIn
import Derived.Shelf.RegionOpen
import Derived.Sort.MapsRangeIn
import Derived.Maps.OwnIn
import Derived.Maps.AppendAt
import Derived.WalkKit
import Derived.OwnWalkIn
import Derived.TacticsInMore
import Derived.RegionIn
import Derived.LoopNIn
import Derived.LoopIn
import Derived.Lib.SlKeysI
import Derived.Test.YtlbfenfepmmihaaChecked
import Derived.RangeFuncWrites
import Derived.Test.YtlbfenfepmmihaaRows
namespace Go.Proofs.Ytlbfenfepmmihaa
open Go.Proofs
open Go.RowKit Go.Maps Go.Sort Go.Shelf
attribute [local go_sem] Oper.semAt_some

set_option maxRecDepth 100000 in
set_option maxHeartbeats 1000000 in
theorem Try.each_nil {α : Type} (n : Nat) (Bq Bp : Nat) (w : World) (hBq : Bq < w.heap.size) (hq : w.cell? ⟨Bq, 0, none⟩ = some (.pointer none)) (encs : α → Array Value) (Kp : World → World → Prop) (N : Nat) :
    SeqStopsK Fence.wide n Try.prog 140 #[.pointer (some ⟨Bq, 0, none⟩), .pointer (some ⟨Bp, 0, none⟩)] encs Kp (fun xs => xs = []) (fun _ => False) N w := by
  intro l J Jx W hW hJ hJx hY h0
  refine callsIn_of_wp Try.func140 rfl trivial ?_ rfl
  simp only [Try.ntmps140, List.size_toArray, List.length_cons, List.length_nil, Nat.reduceAdd, Nat.reduceSub, Array.replicate_succ, Array.replicate_zero, List.push_toArray, List.append_toArray, List.nil_append, List.cons_append]
  have hc : W.cell? ⟨Bq, 0, none⟩ = some (.pointer none) := (hW.cell (p := ⟨Bq, 0, none⟩) hBq).trans hq
  gi_wp2
  refine bodyPost_ret (results_none rfl _ _ _) rfl ?_
  exact ⟨⟨_, rfl⟩, .inl ⟨[], rfl, h0⟩⟩

set_option maxRecDepth 100000 in
set_option maxHeartbeats 1000000 in
theorem Try.flies (n : Nat) (bi : Nat) (W : World) (h9 : W.cell? ⟨bi, 9, none⟩ = some (.bool false)) (h10 : W.cell? ⟨bi, 10, none⟩ = some (.bool false)) :
    CallsIn Fence.wide n Try.prog 90 #[.pointer (some ⟨bi, 0, none⟩)] W fun e W' => e = .returned (.bool true) ∧ W' = W := by
  refine callsIn_of_wp Try.func90 rfl trivial ?_ rfl
  simp only [Try.ntmps90, List.size_toArray, List.length_cons, List.length_nil, Nat.reduceAdd, Nat.reduceSub, Array.replicate_succ, Array.replicate_zero, List.push_toArray, List.append_toArray, List.nil_append, List.cons_append]
  gi_wp2
  go_ret
  exact ⟨rfl, rfl⟩

structure OneAt (w : World) (Bq Bp : Nat) (p : Int) (bi : Nat) : Prop where
  mk ::
  box : ∃ b La Lo cap, w.cell? ⟨Bq, 0, none⟩ = some (.pointer (some ⟨b, 0, none⟩)) ∧ w.cell? ⟨b, 2, none⟩ = some (.slice (some ⟨La, Lo, none⟩) 1 cap) ∧ w.cell? ⟨La, Lo, none⟩ = some (.pointer (some ⟨bi, 0, none⟩))
  by_ : w.cell? ⟨Bp, 0, none⟩ = some (.int .i64 p)
  path : w.cell? ⟨bi, 7, none⟩ = some (.int .i64 p)
  heard : w.cell? ⟨bi, 9, none⟩ = some (.bool false)
  marked : w.cell? ⟨bi, 10, none⟩ = some (.bool false)
theorem OneAt.below {w W : World} {Bq Bp : Nat} {p : Int} {bi : Nat} (h : OneAt w Bq Bp p bi) (hW : Below w.heap.size w W) : OneAt W Bq Bp p bi := by
  obtain ⟨⟨b, La, Lo, cap, h1, h2, h3⟩, h4, h5, h6, h7⟩ := h
  have k {b o : Nat} {v : Value} (h : w.cell? ⟨b, o, none⟩ = some v) : W.cell? ⟨b, o, none⟩ = some v := (hW.cell (p := ⟨b, o, none⟩) (World.block_lt_of_cell? w _ h)).trans h
  exact ⟨⟨b, La, Lo, cap, k h1, k h2, k h3⟩, k h4, k h5, k h6, k h7⟩

set_option maxRecDepth 100000 in
set_option maxHeartbeats 1000000 in
theorem Try.each_one (n : Nat) (hn : 1 ≤ n) (Bq Bp bi : Nat) (p : Int) (w : World) (h : OneAt w Bq Bp p bi) (Kp : World → World → Prop) :
    SeqStopsK Fence.wide n Try.prog 140 #[.pointer (some ⟨Bq, 0, none⟩), .pointer (some ⟨Bp, 0, none⟩)] (fun _ : Unit => #[.pointer (some ⟨bi, 0, none⟩)]) Kp (fun xs => xs = [()]) (fun _ => True) 1 w := by
  intro l J Jx W hW hJ hJx hY h0
  obtain ⟨⟨b, La, Lo, cap, h1, h2, h3⟩, h4, h5, h6, h7⟩ := h.below hW
  refine callsIn_of_wp Try.func140 rfl trivial ?_ rfl
  simp only [Try.ntmps140, List.size_toArray, List.length_cons, List.length_nil, Nat.reduceAdd, Nat.reduceSub, Array.replicate_succ, Array.replicate_zero, List.push_toArray, List.append_toArray, List.nil_append, List.cons_append]
  gi_wp2
  gi_loopw [13] (fun p wr => (p = .int .i64 0 ∧ wr = W) ∨ (p = .int .i64 1 ∧ J [()] wr)) (fun p _ => 1 - (match p with | .int _ i => i.toNat | _ => 0))
  case atStart => exact .inl ⟨rfl, rfl⟩
  case round =>
    rcases hrel with ⟨rfl, rfl⟩ | ⟨rfl, hJ1⟩
    · have h0' : J [] wr.drew := hJ _ wr wr.drew none h0 ⟨rfl, rfl, rfl, Nat.le_refl _, fun _ _ _ => rfl⟩ (fun r e => by cases e)
      obtain ⟨fn, tmps, assign, body, hy, hR⟩ := hY [] () wr.drew h0' (by decide)
      have hR' := hR.mono (R' := fun e W' => ∃ t : Bool, e = .returned (.bool t) ∧ ((t = true ∧ J [()] W') ∨ (t = false ∧ Jx [()] W'))) fun e W' h => by
        rcases h with ⟨rfl, h, _⟩ | ⟨rfl, h⟩
        · exact ⟨true, rfl, .inl ⟨rfl, h⟩⟩
        · exact ⟨false, rfl, .inr ⟨rfl, h⟩⟩
      gi_wp2
      have hfl := Try.flies (n - 1) bi wr.drew h6 h7
      gi_region_with (first | (refine And.intro trivial (hfl.mono ?_); rintro e w' ⟨rfl, rfl⟩) | (refine hR'.mono ?_; rintro e W3 ⟨t, rfl, hJJ⟩))
      all_goals
        rcases hJJ with ⟨rfl, hJ1⟩ | ⟨rfl, hJx1⟩
        · gi_wp2
          go_roundw
          case rel => exact .inr ⟨rfl, hJ1⟩
          case measure => decide
        · gi_wp2
          refine bodyPost_ret (results_none rfl _ _ _) rfl ?_
          exact ⟨⟨_, rfl⟩, .inr ⟨[()], trivial, hJx1⟩⟩
    · gi_wp2
      go_end0
      exact ⟨⟨_, rfl⟩, .inl ⟨[()], rfl, hJ1⟩⟩
end Go.Proofs.Ytlbfenfepmmihaa

namespace Go.Proofs.Ytlbfenfepmmihaa
open Go.Proofs
open Go.RowKit Go.Maps Go.Sort Go.Shelf
attribute [local go_sem] Oper.semAt_some

set_option maxRecDepth 100000 in
set_option maxHeartbeats 1000000 in
theorem Try.each (n : Nat) (q : Value) (hq : ∃ a, q = .pointer a) (p : Int) (w : World) : CallsIn Fence.wide n Try.prog 100 #[q, .int .i64 p] w fun e W' =>
    e = .returned (.func (.func 140) #[] #[.pointer (some ⟨w.heap.size, 0, none⟩), .pointer (some ⟨w.heap.size + 1, 0, none⟩)]) ∧ W' = (w.alloc (.cells #[q] 81)).alloc (.cells #[.int .i64 p] 3) := by
  obtain ⟨a, rfl⟩ := hq
  refine callsIn_of_wp Try.func100 rfl trivial ?_ rfl
  simp only [Try.ntmps100, List.size_toArray, List.length_cons, List.length_nil, Nat.reduceAdd, Nat.reduceSub, Array.replicate_succ, Array.replicate_zero, List.push_toArray, List.append_toArray, List.nil_append, List.cons_append]
  gi_wp2
  go_ret
  exact ⟨rfl, rfl⟩
theorem eg140 : ∀ args w, (callFunc 140 args).run Try.prog w = .ok (.enter 140 args) w := enters_of Try.func140 (by kernel_rfl) rfl
theorem boxed_from {β : Type} {n0 B : Nat} {ty : Nat} {f : β → Value} : OwnFrom n0 (fun (s : β) W => Boxed W B ty (f s)) := by
  intro s W W' row hb hg hr
  refine hb.kept hg fun e => ?_
  obtain ⟨_, o, ho, hc⟩ := hr B e.symm
  rw [show W.heap[B]? = _ from hb] at ho
  cases ho
  cases hc
set_option maxRecDepth 100000 in
set_option maxHeartbeats 2000000 in
theorem Try.late_nil (n : Nat) (hn : 2 ≤ n) (p : Int) (w : World) : CallsIn Fence.wide n Try.prog 49 #[.pointer none, .int .i64 p] w fun e W' => e = .returned (.int .i64 0) ∧ Below w.heap.size w W' := by
  have h1 : 1 ≤ n := by omega
  refine callsIn_of_wp_marks Try.func49 rfl trivial ?_ rfl
  simp only [Try.ntmps49, List.size_toArray, List.length_cons, List.length_nil, Nat.reduceAdd, Nat.reduceSub, Array.replicate_succ, Array.replicate_zero, List.push_toArray, List.append_toArray, List.nil_append, List.cons_append]
  gi_wp2_with (refine And.intro trivial ((Try.each (n - 1) _ ⟨_, rfl⟩ p _).mono ?_); rintro e w' ⟨rfl, rfl⟩)
  have hB : Below w.heap.size w (((w.alloc (.cells #[.int .i64 0] 3)).alloc (.cells #[.pointer none] 81)).alloc (.cells #[.int .i64 p] 3)) := (((Below.refl _ w).alloc (Nat.le_refl _) _).alloc (by simp) _).alloc (by simp only [World.size_alloc]; omega) _
  have hc1 : (((w.alloc (.cells #[.int .i64 0] 3)).alloc (.cells #[.pointer none] 81)).alloc (.cells #[.int .i64 p] 3)).cell? ⟨w.heap.size + 1, 0, none⟩ = some (.pointer none) := by
    have h := (Boxed.new (w.alloc (.cells #[.int .i64 0] 3)) 81 (.pointer none)).alloc (.cells #[.int .i64 p] 3)
    rw [World.size_alloc] at h
    exact h.cell
  refine wpIn_rangeFunc_ownG rfl h1 (gf := 140) (lb := #[.pointer (some ⟨w.heap.size + 1, 0, none⟩), .pointer (some ⟨w.heap.size + 1 + 1, 0, none⟩)]) rfl trivial eg140
    (encs := fun _ : Unit => #[Value.pointer none]) (Kp := fun _ _ => True) (Try.each_nil (n - 1) _ _ _ (by simp only [World.size_alloc]; omega) hc1 _ _ 0) (fun _ _ => trivial) (fun _ _ _ _ _ _ _ _ => trivial) (Below.refl _ _) (fun _ => rfl)
    (fun _ W => Boxed W w.heap.size 3 (.int .i64 0) ∧ Below w.heap.size w W)
    (fun _ _ _ => False)
    (OwnFrom.and boxed_from (ownFrom_below (Nat.le_refl _) (by simp only [World.size_alloc]; omega)))
    (fun _ _ _ _ _ hs _ _ => hs)
    ⟨((Boxed.new w 3 (.int .i64 0)).alloc _).alloc _, hB⟩
    (fun _ => { tmps := #[.pointer none, .int .i64 p, undef, undef, .int .i64 0, .pointer (some ⟨w.heap.size, 0, none⟩), .pointer none, .pointer none, .int .i64 p, .func (.func 140) #[] #[.pointer (some ⟨w.heap.size + 1, 0, none⟩), .pointer (some ⟨w.heap.size + 1 + 1, 0, none⟩)], .pointer none, undef, undef, undef, undef, undef, undef], defers := [] }) ?assign ?body ?done ?stop
  case assign =>
    intro l x W K hK
    gi_wp2
    exact hK
  case body => exact fun _ pre _ _ _ h => absurd h (Nat.not_lt_zero _)
  case done =>
    rintro D ys W hD hS ⟨hv, hB'⟩ hK
    have hc := hv.cell
    gi_wp2
    refine ⟨by simp, .inl ⟨_, _, rfl, run_takeDeferred hK, ?_⟩⟩
    exact ⟨_, results_tmp rfl _ _ _, rfl, hB'.trans (belowK_b (w := w) (Nat.le_refl _) W D _ _ (by simp only [World.size_alloc] at hD; omega) hK rfl rfl)⟩
  case stop =>
    rintro D c pre W _ _ h _
    exact h.elim
set_option maxRecDepth 100000 in
set_option maxHeartbeats 2000000 in
theorem Try.flight_nil (n : Nat) (hn : 2 ≤ n) (p : Int) (w : World) : CallsIn Fence.wide n Try.prog 50 #[.pointer none, .int .i64 p] w fun e W' => e = .returned (.int .i64 0) ∧ Below w.heap.size w W' := by
  have h1 : 1 ≤ n := by omega
  refine callsIn_of_wp_marks Try.func50 rfl trivial ?_ rfl
  simp only [Try.ntmps50, List.size_toArray, List.length_cons, List.length_nil, Nat.reduceAdd, Nat.reduceSub, Array.replicate_succ, Array.replicate_zero, List.push_toArray, List.append_toArray, List.nil_append, List.cons_append]
  gi_wp2_with (refine And.intro trivial ((Try.each (n - 1) _ ⟨_, rfl⟩ p _).mono ?_); rintro e w' ⟨rfl, rfl⟩)
  have hB : Below w.heap.size w (((w.alloc (.cells #[.int .i64 0] 3)).alloc (.cells #[.pointer none] 81)).alloc (.cells #[.int .i64 p] 3)) := (((Below.refl _ w).alloc (Nat.le_refl _) _).alloc (by simp) _).alloc (by simp only [World.size_alloc]; omega) _
  have hc1 : (((w.alloc (.cells #[.int .i64 0] 3)).alloc (.cells #[.pointer none] 81)).alloc (.cells #[.int .i64 p] 3)).cell? ⟨w.heap.size + 1, 0, none⟩ = some (.pointer none) := by
    have h := (Boxed.new (w.alloc (.cells #[.int .i64 0] 3)) 81 (.pointer none)).alloc (.cells #[.int .i64 p] 3)
    rw [World.size_alloc] at h
    exact h.cell
  refine wpIn_rangeFunc_ownG rfl h1 (gf := 140) (lb := #[.pointer (some ⟨w.heap.size + 1, 0, none⟩), .pointer (some ⟨w.heap.size + 1 + 1, 0, none⟩)]) rfl trivial eg140
    (encs := fun _ : Unit => #[Value.pointer none]) (Kp := fun _ _ => True) (Try.each_nil (n - 1) _ _ _ (by simp only [World.size_alloc]; omega) hc1 _ _ 0) (fun _ _ => trivial) (fun _ _ _ _ _ _ _ _ => trivial) (Below.refl _ _) (fun _ => rfl)
    (fun _ W => Boxed W w.heap.size 3 (.int .i64 0) ∧ Below w.heap.size w W)
    (fun _ _ _ => False)
    (OwnFrom.and boxed_from (ownFrom_below (Nat.le_refl _) (by simp only [World.size_alloc]; omega)))
    (fun _ _ _ _ _ hs _ _ => hs)
    ⟨((Boxed.new w 3 (.int .i64 0)).alloc _).alloc _, hB⟩
    (fun _ => { tmps := #[.pointer none, .int .i64 p, undef, undef, .int .i64 0, .pointer (some ⟨w.heap.size, 0, none⟩), .pointer none, .pointer none, .int .i64 p, .func (.func 140) #[] #[.pointer (some ⟨w.heap.size + 1, 0, none⟩), .pointer (some ⟨w.heap.size + 1 + 1, 0, none⟩)], .pointer none, undef, undef, undef, undef, undef, undef, undef, undef, undef], defers := [] }) ?assign ?body ?done ?stop
  case assign =>
    intro l x W K hK
    gi_wp2
    exact hK
  case body => exact fun _ pre _ _ _ h => absurd h (Nat.not_lt_zero _)
  case done =>
    rintro D ys W hD hS ⟨hv, hB'⟩ hK
    have hc := hv.cell
    gi_wp2
    refine ⟨by simp, .inl ⟨_, _, rfl, run_takeDeferred hK, ?_⟩⟩
    exact ⟨_, results_tmp rfl _ _ _, rfl, hB'.trans (belowK_b (w := w) (Nat.le_refl _) W D _ _ (by simp only [World.size_alloc] at hD; omega) hK rfl rfl)⟩
  case stop =>
    rintro D c pre W _ _ h _
    exact h.elim

set_option maxRecDepth 100000 in
set_option maxHeartbeats 2000000 in
theorem Try.late_one (n : Nat) (hn : 3 ≤ n) (b bi : Nat) (p : Int) (us : List Value) (w : World)
    (hq : ∃ La Lo cap, w.cell? ⟨b, 2, none⟩ = some (.slice (some ⟨La, Lo, none⟩) 1 cap) ∧ w.cell? ⟨La, Lo, none⟩ = some (.pointer (some ⟨bi, 0, none⟩)))
    (hb : w.heap[bi]? = some (.cells us.toArray 171 (0, 0))) (h7 : us[7]? = some (.int .i64 p)) (h9 : us[9]? = some (.bool false)) (h10 : us[10]? = some (.bool false)) :
    CallsIn Fence.wide n Try.prog 49 #[.pointer (some ⟨b, 0, none⟩), .int .i64 p] w fun e W' => e = .returned (.int .i64 1) ∧ w.grownBy W' (some bi) ∧ W'.heap[bi]? = some (.cells (us.set 10 (.bool true)).toArray 171 (0, 0)) := by
  have h1 : 1 ≤ n := by omega
  have hlt : bi < w.heap.size := (Array.getElem?_eq_some_iff.1 hb).1
  refine callsIn_of_wp_marks Try.func49 rfl trivial ?_ rfl
  simp only [Try.ntmps49, List.size_toArray, List.length_cons, List.length_nil, Nat.reduceAdd, Nat.reduceSub, Array.replicate_succ, Array.replicate_zero, List.push_toArray, List.append_toArray, List.nil_append, List.cons_append]
  gi_wp2_with (refine And.intro trivial ((Try.each (n - 1) _ ⟨_, rfl⟩ p _).mono ?_); rintro e w' ⟨rfl, rfl⟩)
  obtain ⟨W1, hW1⟩ : ∃ W1, (((w.alloc (.cells #[.int .i64 0] 3)).alloc (.cells #[.pointer (some ⟨b, 0, none⟩)] 81)).alloc (.cells #[.int .i64 p] 3)) = W1 := ⟨_, rfl⟩
  rw [hW1]
  have hg1 : w.grownBy W1 none := by
    rw [← hW1]
    exact ((World.grownBy_alloc w _ none).trans (World.grownBy_alloc _ _ none)).trans (World.grownBy_alloc _ _ none)
  have hs1 : W1.heap.size = w.heap.size + 3 := by rw [← hW1]; simp only [World.size_alloc]
  have kp {b o : Nat} {v : Value} (h : w.cell? ⟨b, o, none⟩ = some v) : W1.cell? ⟨b, o, none⟩ = some v := by
    have := World.block_lt_of_cell? w _ h
    simp only [World.cell?, hg1.block b this (by simp)] at h ⊢
    exact h
  have kb : W1.heap[bi]? = some (.cells us.toArray 171 (0, 0)) := (hg1.block bi hlt (by simp)).trans hb
  have us_cell {W : World} {us : List Value} {o : Nat} {v : Value} (h : W.heap[bi]? = some (.cells us.toArray 171 (0, 0))) (hv : us[o]? = some v) : W.cell? ⟨bi, o, none⟩ = some v := by simp [World.cell?, h, hv]
  have hOne : OneAt W1 (w.heap.size + 1) (w.heap.size + 1 + 1) p bi := by
    obtain ⟨La, Lo, cap, a1, a2⟩ := hq
    refine ⟨⟨b, La, Lo, cap, ?_, kp a1, kp a2⟩, ?_, us_cell kb h7, us_cell kb h9, us_cell kb h10⟩
    · rw [← hW1]
      have h := (Boxed.new (w.alloc (.cells #[.int .i64 0] 3)) 81 (.pointer (some ⟨b, 0, none⟩))).alloc (.cells #[.int .i64 p] 3)
      rw [World.size_alloc] at h
      exact h.cell
    · rw [← hW1]
      have h := Boxed.new ((w.alloc (.cells #[.int .i64 0] 3)).alloc (.cells #[.pointer (some ⟨b, 0, none⟩)] 81)) 3 (.int .i64 p)
      rw [World.size_alloc, World.size_alloc] at h
      exact h.cell
  have hbox : Boxed W1 w.heap.size 3 (.int .i64 0) := by
    rw [← hW1]
    exact ((Boxed.new w 3 (.int .i64 0)).alloc _).alloc _
  refine wpIn_rangeFunc_ownG rfl h1 (gf := 140) (lb := #[.pointer (some ⟨w.heap.size + 1, 0, none⟩), .pointer (some ⟨w.heap.size + 1 + 1, 0, none⟩)]) rfl trivial eg140
    (encs := fun _ : Unit => #[Value.pointer (some ⟨bi, 0, none⟩)]) (Kp := fun _ _ => True) (Try.each_one (n - 1) (by omega) _ _ _ _ _ hOne _) (fun _ _ => trivial) (fun _ _ _ _ _ _ _ _ => trivial) (Below.refl _ _) (fun _ => rfl)
    (fun pre W => Boxed W w.heap.size 3 (.int .i64 pre.length) ∧ w.grownBy W (some bi) ∧ W.heap[bi]? = some (.cells (if pre = [] then us else us.set 10 (.bool true)).toArray 171 (0, 0)))
    (fun _ _ _ => False)
    ?own
    (fun _ _ _ _ _ hs _ _ => hs)
    ⟨hbox, ⟨hg1.os, hg1.tape, hg1.output, hg1.size, fun k hk _ => hg1.block k hk (by simp)⟩, kb⟩
    (fun _ => { tmps := #[.pointer (some ⟨b, 0, none⟩), .int .i64 p, undef, undef, .int .i64 0, .pointer (some ⟨w.heap.size, 0, none⟩), .pointer (some ⟨bi, 0, none⟩), .pointer (some ⟨b, 0, none⟩), .int .i64 p, .func (.func 140) #[] #[.pointer (some ⟨w.heap.size + 1, 0, none⟩), .pointer (some ⟨w.heap.size + 1 + 1, 0, none⟩)], .pointer (some ⟨bi, 0, none⟩), undef, undef, undef, undef, undef, undef], defers := [] }) ?assign ?body ?done ?stop
  case own =>
    intro s W W' row ⟨i1, i2, i3⟩ hg hr
    have hne {k : Nat} {cs : Array Value} {ty : Nat} (h : W.heap[k]? = some (.cells cs ty (0, 0))) : some k ≠ row := fun e => by
      obtain ⟨_, o, ho, hc⟩ := hr k e.symm
      rw [h] at ho
      cases ho
      cases hc
    refine ⟨boxed_from (f := fun s : List Unit => .int .i64 s.length) s W W' row i1 hg hr, i2.andThen hg (fun j e => .inl ?_), ?_⟩
    · have := (hr j e).1
      omega
    · rw [hg.block bi (Array.getElem?_eq_some_iff.1 i3).1 (hne i3)]
      exact i3
  case assign =>
    intro l x W K hK
    gi_wp2
    exact hK
  case body =>
    rintro l pre x W ⟨i1, i2, i3⟩ hlt1
    obtain rfl : pre = [] := List.eq_nil_of_length_eq_zero (by omega)
    rw [if_pos rfl] at i3
    have c1 := i1.cell
    have c10 := us_cell i3 h10
    have f10 : W.frozen? ⟨bi, 10, none⟩ = false := by simp [World.frozen?, i3]
    have f1 := i1.frozen
    have hne : bi ≠ w.heap.size := by omega
    gi_wp2
    have hs : ((W.setCell ⟨bi, 10, none⟩ (.bool true)).setCell ⟨w.heap.size, 0, none⟩ (.int .i64 1)).heap.size = W.heap.size := by simp [World.setCell]
    have e1 : (W.setCell ⟨bi, 10, none⟩ (.bool true)).heap[bi]? = some (.cells (us.set 10 (.bool true)).toArray 171 (0, 0)) := by
      obtain ⟨hlt2, hk⟩ := Array.getElem?_eq_some_iff.1 i3
      show (W.heap.modify bi _)[bi]? = _
      rw [Array.getElem?_eq_getElem (by rw [Array.size_modify]; exact hlt2), Array.getElem_modify_self, hk]
      simp
    have e2 : Boxed (W.setCell ⟨bi, 10, none⟩ (.bool true)) w.heap.size 3 (.int .i64 0) := (Below.heap_setCell W ⟨bi, 10, none⟩ (.bool true) w.heap.size (Ne.symm hne)).trans i1
    refine ⟨((KeepsOthers.setCell W _ _).from _).trans ((KeepsOthers.setCell _ _ _).from _), trivial, e2.set _, ⟨i2.os, i2.tape, i2.output, by rw [hs]; exact i2.size, fun k hk hkb => ?_⟩, ?_⟩
    · have h3 : k ≠ bi := fun e => hkb (by rw [e])
      have h4 : k ≠ w.heap.size := by omega
      exact ((Below.heap_setCell _ ⟨w.heap.size, 0, none⟩ _ k h4).trans (Below.heap_setCell W ⟨bi, 10, none⟩ _ k h3)).trans (i2.block k hk hkb)
    · exact (Below.heap_setCell _ ⟨w.heap.size, 0, none⟩ _ bi hne).trans e1
  case done =>
    rintro D ys W hD hS ⟨i1, i2, i3⟩ hK
    obtain rfl := hS
    have hc := i1.cell
    gi_wp2
    refine ⟨by simp, .inl ⟨_, _, rfl, run_takeDeferred hK, ?_⟩⟩
    have hD' : w.heap.size ≤ D := by omega
    refine ⟨_, results_tmp rfl _ _ _, rfl, i2.andThen (grownBy_putObj' W D _) (fun j e => .inl (by cases e; exact hD')), ?_⟩
    rw [(grownBy_putObj' W D _).block bi (Array.getElem?_eq_some_iff.1 i3).1 (by simp; omega)]
    exact i3
  case stop =>
    rintro D c pre W _ _ h _
    exact h.elim
end Go.Proofs.Ytlbfenfepmmihaa

set_option maxRecDepth 100000
namespace Go.ZM
open Go.Z
def lateQ (q : QuR) (p : Int) : QuR := ⟨q.next, q.wait, q.out.map (lateI p)⟩
theorem late_cell (x : ItR) {j : Nat} (hj : j < 11) (hne : j ≠ 10) : itCell [{ x with marked := true }] 0 j = itCell [x] 0 j := by
  match j, hj with
  | 0, _ => rfl
  | 1, _ => rfl
  | 2, _ => rfl
  | 3, _ => rfl
  | 4, _ => rfl
  | 5, _ => rfl
  | 6, _ => rfl
  | 7, _ => rfl
  | 8, _ => rfl
  | 9, _ => rfl
  | 10, _ => exact absurd rfl hne
end Go.ZM
namespace Go.ZR
open Go.Z Go.ZM Go.Proofs
def lateZC : Ctr := nilQC [true, false] (fun a => ∃ p, a = [nilP, iO .i64 p]) (fun _ => [iO .i64 0]) fun _ => [.any, .any]
def flightZC : Ctr := nilQC [true, false] (fun a => ∃ p, a = [nilP, iO .i64 p]) (fun _ => [iO .i64 0]) fun _ => [.any, .any]
def lateOC : Ctr := nilQC [true, false] (fun a => ∃ bs q x p, a = [quB bs q, iO .i64 p] ∧ q.out = [x] ∧ x.path = p ∧ x.heard = false ∧ x.marked = false) (fun _ => [iO .i64 1]) fun a => [quO (lateQ (qA a) (vi (dO (at_ a 1)))), .any]
end Go.ZR
namespace Go.Proofs.Ytlbfenfepmmihaa
open Go.Proofs Go.ZM Go.ZR
open Go.RowKit Go.Z
theorem nil_ok {f : Nat} {c : Ctr} (hf : EntersOk Try.prog f) (hc : ∀ (p : Int) (w : World), Calls Try.prog f #[.pointer none, .int .i64 p] w fun e W' => e = .returned (.int .i64 0) ∧ Below w.heap.size w W') (he : c = nilQC [true, false] (fun a => ∃ p, a = [nilP, iO .i64 p]) (fun _ => [iO .i64 0]) fun _ => [.any, .any]) : FnIs Try.prog f c := by
  subst he
  refine ⟨fun w A args vs fp hA hnd hlt hpre _ => ?_, hf⟩
  obtain ⟨p, rfl⟩ := hpre
  match vs, hA with
  | [], hA => simp [OL.holds] at hA
  | [_], hA => simp [OL.holds] at hA
  | _ :: _ :: _ :: _, hA => simp [OL.holds] at hA
  | [v1, v2], hA =>
    unfold nilP at hA
    simp only [OL.holds, O.holds, D.holds] at hA
    obtain ⟨_, _, rfl, ⟨⟨rfl, _⟩, rfl⟩, _, _, rfl, ⟨⟨rfl, _⟩, rfl⟩, rfl⟩ := hA
    refine (hc p w).mono ?_
    rintro e W' ⟨rfl, hb⟩
    refine ⟨[.int .i64 0], [], [], rfl, ⟨hb.os, hb.tape, hb.output, hb.size, fun b h _ => hb.block b h⟩, by simp, by simp, ?_, ?_⟩
    · exact ⟨[], [], rfl, by simp [O.holds], [], [], rfl, by simp [O.holds], by simp [OL.holds]⟩
    · exact ⟨[], [], rfl, by simp [iO, O.holds, D.holds, Value.oneCell'], by simp [OL.holds]⟩
theorem ok49z : FnIs Try.prog 49 lateZC := nil_ok (entersOk Try.func49 (by kernel_rfl) (by kernel_rfl)) (fun p w => (callsIn_wide (n := 6)).1 (Try.late_nil 6 (by omega) p w)) rfl
theorem ok50z : FnIs Try.prog 50 flightZC := nil_ok (entersOk Try.func50 (by kernel_rfl) (by kernel_rfl)) (fun p w => (callsIn_wide (n := 6)).1 (Try.flight_nil 6 (by omega) p w)) rfl
theorem ok49o : FnIs Try.prog 49 lateOC := by
  refine ⟨fun w A args vs fp hA hnd hlt hpre _ => ?_, entersOk Try.func49 (by kernel_rfl) (by kernel_rfl)⟩
  obtain ⟨bs, q, x, p, rfl, hx, hp, hh, hm⟩ := hpre
  obtain ⟨nx, wt, out⟩ := q
  simp only at hx
  subst hx
  match vs, hA with
  | [], hA => simp [OL.holds] at hA
  | [_], hA => simp [OL.holds] at hA
  | _ :: _ :: _ :: _, hA => simp [OL.holds] at hA
  | [v1, v2], hA =>
    simp only [OL.holds] at hA
    obtain ⟨fq, _, rfl, ha1, _, _, rfl, ha2, rfl⟩ := hA
    unfold iO at ha2
    simp only [O.holds, D.holds] at ha2
    obtain ⟨⟨rfl, _⟩, rfl⟩ := ha2
    unfold quB at ha1
    simp only [O.holds] at ha1
    obtain ⟨b, us, f, rfl, rfl, hb, hus⟩ := ha1
    match us, hb, hus with
    | [], hb, hus => simp [OL.holds] at hus
    | [_], hb, hus => simp [OL.holds] at hus
    | [_, _], hb, hus => simp [OL.holds] at hus
    | _ :: _ :: _ :: _ :: _, hb, hus => simp [OL.holds] at hus
    | [u1, u2, u3], hb, hus =>
      simp only [OL.holds] at hus
      obtain ⟨f1, _, rfl, k1, f2, _, rfl, k2, f3, _, rfl, k3, rfl⟩ := hus
      simp only [O.holds] at k3
      obtain ⟨L, bs', rfl, hP, hbs, hfp⟩ := k3
      obtain ⟨wf, l1, l2, l3, l4, l5, l6⟩ := hP
      have l1' : L.len = 1 := l1
      obtain ⟨bi, rfl⟩ : ∃ bi, bs' = [bi] := by
        match bs', l3 with
        | [bi], _ => exact ⟨bi, rfl⟩
      have hcap : L.cap ≠ 0 := by omega
      obtain ⟨hLb, cs, hcs, hsz⟩ := l5 hcap
      obtain ⟨e1, us', hbi, hlen, hcells⟩ := l6 0 bi rfl
      have f3e : f3 = L.b :: [bi] := by
        rcases hfp with ⟨h, _⟩ | ⟨_, h⟩
        · exact absurd h hcap
        · exact h
      subst f3e
      have La : L.a = some ⟨L.b, L.o, none⟩ := by
        rcases wf with h | h
        · exact absurd h hcap
        · exact h
      have val {j : Nat} {v : Value} (hj : j < 11) (hv : itCell [x] 0 j = .v v) : us'[j]? = some v := by
        obtain ⟨c, e, hc⟩ := hcells j hj
        rw [show itCell [x] 0 j = .v v from hv] at hc
        rw [e, hc.1]
      have h7 : us'[7]? = some (.int .i64 p) := by rw [← hp]; exact val (by decide) rfl
      have h9 : us'[9]? = some (.bool false) := by rw [← hh]; exact val (by decide) rfl
      have h10 : us'[10]? = some (.bool false) := by rw [← hm]; exact val (by decide) rfl
      have hq : ∃ La Lo cap, w.cell? ⟨b, 2, none⟩ = some (.slice (some ⟨La, Lo, none⟩) 1 cap) ∧ w.cell? ⟨La, Lo, none⟩ = some (.pointer (some ⟨bi, 0, none⟩)) := by
        refine ⟨L.b, L.o, L.cap, ?_, by simpa using e1⟩
        simp only [World.cell?, hb]
        show some L.val = _
        unfold Loc.val
        rw [La, l1']
      simp only [List.append_nil] at hnd k1 k2 hcells ⊢
      have hnd' := hnd
      simp only [List.nodup_cons, List.nodup_append, List.mem_append, List.mem_cons, List.not_mem_nil, or_false] at hnd
      have n0 : bi ≠ b := fun e => hnd.1 (.inr (.inr (.inr e.symm)))
      have n1 : bi ∉ f1 := fun h => by
        have := hnd.2.2.2 bi h bi (.inr (.inr rfl))
        exact this rfl
      have n2 : bi ∉ f2 := fun h => by
        have := hnd.2.2.1.2.2 bi h bi (.inr rfl)
        exact this rfl
      have n3 : bi ≠ L.b := fun e => hLb (by simp [e])
      refine ((callsIn_wide (n := 6)).1 (Try.late_one 6 (by omega) b bi p us' w hq hbi h7 h9 h10)).mono ?_
      rintro e W' ⟨rfl, hg, hW⟩
      have same {k : Nat} (hk : k < w.heap.size) (hne : k ≠ bi) : W'.heap[k]? = w.heap[k]? := hg.block k hk (by simpa using hne)
      have hK : Keeps (fun b_1 => A b_1 ∧ b_1 ∉ b :: (f1 ++ (f2 ++ [L.b, bi]))) (After w A (b :: (f1 ++ (f2 ++ [L.b, bi]))) (b :: (f1 ++ (f2 ++ [L.b, bi])))) w W' := fun k hk hX => ⟨⟨.inr (.inl hX.1), hX.2⟩, same hk (fun e => hX.2 (by simp [e]))⟩
      refine ⟨[.int .i64 1], b :: (f1 ++ (f2 ++ [L.b, bi])), [], rfl, ⟨hg.os, hg.tape, hg.output, hg.size, fun k hk hn => same hk (fun e => hn (by simp [e]))⟩, by simpa using hnd', fun k hk => .inl (by simpa using hk), ?_, ?_⟩
      · have hlt' (k : Nat) (hk : k ∈ b :: (f1 ++ (f2 ++ [L.b, bi]))) : k < w.heap.size := hlt k (by simpa using hk)
        have hlate : lateI p x = { x with marked := true } := by
          unfold lateI
          rw [if_pos ⟨hp, by simp [fliesI, hh, hm]⟩]
        have he : lateOC.upd [quB bs ⟨nx, wt, [x]⟩, iO .i64 p] = [quO ⟨nx, wt, [lateI p x]⟩, .any] := by
          show [quO (lateQ (quOf (quB bs ⟨nx, wt, [x]⟩)) p), O.any] = _
          rw [show quOf (quB bs ⟨nx, wt, [x]⟩) = quOf (quO ⟨nx, wt, [x]⟩) from rfl, quOf_quO]
          rfl
        rw [he, hlate]
        unfold quO quL
        simp only [OL.holds, O.holds, List.append_nil]
        refine ⟨b :: (f1 ++ (f2 ++ [L.b, bi])), [], by simp, ⟨b, [u1, u2, L.val], f1 ++ (f2 ++ [L.b, bi]), rfl, rfl, by rw [same (hlt' b (by simp)) (Ne.symm n0)]; exact hb, ?_⟩, [], [], rfl, rfl, rfl⟩
        simp only [OL.holds]
        refine ⟨f1, f2 ++ [L.b, bi], rfl, O.holds_mono hK _ _ _ (fun k hk => same (hlt' k (by simp [hk])) (fun e => n1 (e ▸ hk))) k1, f2, [L.b, bi], rfl, O.holds_mono hK _ _ _ (fun k hk => same (hlt' k (by simp [hk])) (fun e => n2 (e ▸ hk))) k2, [L.b, bi], [], rfl, ?_, rfl⟩
        simp only [O.holds]
        refine ⟨L, [bi], rfl, ⟨wf, l1', l2, rfl, by simp, fun _ => ⟨hLb, cs, by rw [same (hlt' L.b (by simp)) (Ne.symm n3)]; exact hcs, hsz⟩, fun i k hk => ?_⟩, fun _ h => absurd h (by simp), .inr ⟨hcap, rfl⟩⟩
        have hi : i = 0 ∧ k = bi := by
          match i, hk with
          | 0, hk => exact ⟨rfl, by simpa using hk.symm⟩
        obtain ⟨rfl, rfl⟩ := hi
        refine ⟨by rw [cell_eq (same (hlt' L.b (by simp)) (Ne.symm n3))]; exact e1, us'.set 10 (.bool true), hW, by simp [hlen], fun j hj => ?_⟩
        by_cases hj10 : j = 10
        · subst hj10
          refine ⟨.bool true, by simp [hlen], ?_⟩
          show D.holds _ W' (.v (.bool true)) _
          simp [D.holds, Value.oneCell']
        · obtain ⟨c, ec, hc⟩ := hcells j hj
          refine ⟨c, by rw [List.getElem?_set_ne (Ne.symm hj10)]; exact ec, ?_⟩
          show D.holds _ W' (itCell [{ x with marked := true }] 0 j) c
          rw [late_cell x hj hj10]
          exact D.holds_mono hK _ _ hc
      · exact ⟨[], [], rfl, by simp [iO, O.holds, D.holds, Value.oneCell'], by simp [OL.holds]⟩
end Go.Proofs.Ytlbfenfepmmihaa

set_option maxRecDepth 100000
namespace Go.Z
def Ctr.either (t : List O → Bool) (c d : Ctr) : Ctr where
  own := c.own
  pre := fun a => (t a = true ∧ c.pre a) ∨ (t a = false ∧ d.pre a)
  res := fun a => bif t a then c.res a else d.res a
  upd := fun a => bif t a then c.upd a else d.upd a
  ro := c.ro
  quiet := c.quiet
  gl := c.gl
theorem FnIs.either {P : Program} {f : Nat} {t : List O → Bool} {c d : Ctr} (h : FnIs P f c) (k : FnIs P f d) (hg : d.gl = c.gl := by rfl) : FnIs P f (Ctr.either t c d) := by
  refine ⟨fun w A aa vs fp h1 h2 h3 h4 h5 => ?_, h.2⟩
  rcases h4 with ⟨e, h4⟩ | ⟨e, h4⟩
  · have := h.1 w A aa vs fp h1 h2 h3 h4 h5
    have e1 : (Ctr.either t c d).res aa = c.res aa := by show (bif t aa then _ else _) = _; rw [e]; rfl
    have e2 : (Ctr.either t c d).upd aa = c.upd aa := by show (bif t aa then _ else _) = _; rw [e]; rfl
    rw [e1, e2]
    exact this
  · have := k.1 w A aa vs fp h1 h2 h3 h4 (by rw [hg]; exact h5)
    have e1 : (Ctr.either t c d).res aa = d.res aa := by show (bif t aa then _ else _) = _; rw [e]; rfl
    have e2 : (Ctr.either t c d).upd aa = d.upd aa := by show (bif t aa then _ else _) = _; rw [e]; rfl
    rw [e1, e2]
    exact this
end Go.Z
namespace Go.ZR
open Go.Z Go.ZM Go.Proofs
def isPt (a : List O) : Bool := match at_ a 0 with
  | .ptr _ _ => true
  | _ => false
def n7 : List (Nat × Ctr) := [(37, newQC), (38, ansQC), (39, Ctr.either isPt pushNC pushZC), (40, Ctr.either isPt nextQC nextZC), (41, heardZC), (48, lenZC), (49, Ctr.either isPt lateOC lateZC), (50, flightZC), (51, cumZC)]
open Go.Proofs.Ytlbfenfepmmihaa in
theorem n7_ok : COk Try.prog (ctrs n7) := cok_cons ok37 (cok_cons ok38 (cok_cons (ok39o.either ok39z) (cok_cons (ok40.either ok40z) (cok_cons ok41z (cok_cons ok48z (cok_cons (ok49o.either ok49z) (cok_cons ok50z (cok_cons ok51z cok_nil))))))))
def nilSC : Ctr := yesC 2 fun a => ∃ f c : Int, a = [iO .u32 f, iO .u8 c] ∧ (0 ≤ f ∧ f ≤ 4294967295) ∧ (0 ≤ c ∧ c ≤ 255)
end Go.ZR

namespace Go.ZR
open Go.Proofs
open Go.Z Go.ZM Go.RowKit
set_option maxRecDepth 100000
def it1 (f c : Int) : ItR := ⟨⟨f, 0, 0, false, false, false, [c]⟩, 0, 0, false, false⟩
def qn1 (f c : Int) : QuR := ⟨u32 (f + 1), [⟨f, 0, 0, false, false, false, [c]⟩], []⟩
def qn2 (f c : Int) : QuR := ⟨u32 (f + 1), [], [it1 f c]⟩
def qn3 (f c : Int) : QuR := ⟨u32 (f + 1), [], [{ it1 f c with marked := true }]⟩
theorem ok_qn1 (f c : Int) : okQ (qn1 f c) := ⟨u32_lo _, by simp [qn1], fun p h => by simp [qn1] at h; subst h; exact show 1 ≤ 256 by decide, fun x h => absurd h (by simp [qn1])⟩
theorem ok_qn3 (f c : Int) : okQ (qn3 f c) := ⟨u32_lo _, by simp [qn3], fun p h => absurd h (by simp [qn3]), fun x h => by simp [qn3] at h; subst h; exact ⟨show 1 ≤ 256 by decide, show (0 : Int) ≤ 0 by decide, show (0 : Int) ≤ 2 by decide⟩⟩
noncomputable def code14 : Code := match Try.f14.body with | some c => c | none => .skip
set_option maxHeartbeats 4000000 in
theorem vc14 : ∀ (f : Int), let y := newQ f; let y_1 := itsOf y.out.length (itCell y.out); let y_2 := piesOf (D.recs (7 : Nat) y.wait.length (pieCell y.wait)); ∀ (c : Int), let y_3 := pieAt (pieCell (y_2 ++ [PieR.mk y.next (0 : Int) (0 : Int) false false false [c]]) (nat_lit 0));
  let y_4 := itsOf (itsOf y_1.length (itCell y_1) ++ [ItR.mk y_3 (0 : Int) (0 : Int) false false]).length (itCell (itsOf y_1.length (itCell y_1) ++ [ItR.mk y_3 (0 : Int) (0 : Int) false false]));
  (0 : Int) ≤ f ∧ f ≤ (4294967295 : Int) → (0 : Int) ≤ c ∧ c ≤ (255 : Int) → ((false = true ∧ ∃ (bs : List Nat), ∃ (q : QuR), ∃ (p : PieR), [O.d (D.v (Value.pointer none)), O.agg [O.d (D.v (Value.int IntKind.u32 (0 : Int))), O.d (D.v (Value.int IntKind.u16 (0 : Int))), O.d (D.v (Value.int IntKind.u16 (0 : Int))), O.d (D.v (Value.bool false)), O.d (D.v (Value.bool false)), O.d (D.v (Value.bool false)), O.own (5 : Nat) (D.ints IntKind.u8 [(1 : Int)])]] = [O.ptr (166 : Nat) [O.d (D.v (Value.int IntKind.u32 q.next)), O.own (86 : Nat) (D.recs (7 : Nat) q.wait.length (pieCell q.wait)), O.pown (169 : Nat) (171 : Nat) (11 : Nat) (some bs) q.out.length (itCell q.out)], O.agg [O.d (D.v (Value.int IntKind.u32 p.tsn)), O.d (D.v (Value.int IntKind.u16 p.str)), O.d (D.v (Value.int IntKind.u16 p.seq)), O.d (D.v (Value.bool p.b)), O.d (D.v (Value.bool p.e)), O.d (D.v (Value.bool p.u)), O.own (5 : Nat) (D.ints IntKind.u8 p.bytes)]] ∧
  okQ q ∧ sm p.bytes.length) ∨ false = false ∧ ∃ (p : PieR), [O.d (D.v (Value.pointer none)), O.agg [O.d (D.v (Value.int IntKind.u32 (0 : Int))), O.d (D.v (Value.int IntKind.u16 (0 : Int))), O.d (D.v (Value.int IntKind.u16 (0 : Int))), O.d (D.v (Value.bool false)), O.d (D.v (Value.bool false)), O.d (D.v (Value.bool false)), O.own (5 : Nat) (D.ints IntKind.u8 [(1 : Int)])]] = [O.d (D.v (Value.pointer none)), O.agg [O.d (D.v (Value.int IntKind.u32 p.tsn)), O.d (D.v (Value.int IntKind.u16 p.str)), O.d (D.v (Value.int IntKind.u16 p.seq)), O.d (D.v (Value.bool p.b)), O.d (D.v (Value.bool p.e)), O.d (D.v (Value.bool p.u)), O.own (5 : Nat) (D.ints IntKind.u8 p.bytes)]] ∧
  sm p.bytes.length) ∧ ((false = true ∧ ∃ (bs : List Nat), ∃ (q : QuR), ∃ (p : Int), [O.d (D.v (Value.pointer none)), O.d (D.v (Value.int IntKind.i64 (0 : Int)))] = [O.ptr (166 : Nat) [O.d (D.v (Value.int IntKind.u32 q.next)), O.own (86 : Nat) (D.recs (7 : Nat) q.wait.length (pieCell q.wait)), O.pown (169 : Nat) (171 : Nat) (11 : Nat) (some bs) q.out.length (itCell q.out)], O.d (D.v (Value.int IntKind.i64 p))] ∧
  okQ q) ∨ false = false ∧ ∃ (p : Int), [O.d (D.v (Value.pointer none)), O.d (D.v (Value.int IntKind.i64 (0 : Int)))] = [O.d (D.v (Value.pointer none)), O.d (D.v (Value.int IntKind.i64 p))]) ∧
  (∃ (es : Nat), [O.d (D.v (Value.pointer none)), O.agg [O.d (D.v (Value.int IntKind.u32 (0 : Int))), O.d (D.v (Value.int IntKind.u32 (0 : Int))), O.d (D.recs Try.prog.types[(43 : Nat)].size (0 : Nat) fun (_x _x_1 : Nat) => D.v undef), O.d (D.ints IntKind.u32 [])]] = [O.d (D.v (Value.pointer none)), O.agg [O.d (D.v (Value.int IntKind.u32 (0 : Int))), O.d (D.v (Value.int IntKind.u32 (0 : Int))), O.d (D.recs es (0 : Nat) fun (_x _x_1 : Nat) => D.v undef), O.d (D.ints IntKind.u32 [])]]) ∧
  [O.d (D.v (Value.pointer none))] = [O.d (D.v (Value.pointer none))] ∧ (∃ (f_1 : Int), [O.d (D.v (Value.int IntKind.u32 f))] = [O.d (D.v (Value.int IntKind.u32 f_1))]) ∧
  ∀ (bs : List Nat), bs.length = y.out.length → ([] : List O) = ([] : List O) ∧ True ∧ True ∧ ((false = true ∧ ∃ (bs_1 : List Nat), ∃ (q : QuR), ∃ (x : ItR), ∃ (p : Int), [O.d (D.v (Value.pointer none)), O.d (D.v (Value.int IntKind.i64 (0 : Int)))] = [O.ptr (166 : Nat) [O.d (D.v (Value.int IntKind.u32 q.next)), O.own (86 : Nat) (D.recs (7 : Nat) q.wait.length (pieCell q.wait)), O.pown (169 : Nat) (171 : Nat) (11 : Nat) (some bs_1) q.out.length (itCell q.out)], O.d (D.v (Value.int IntKind.i64 p))] ∧
  q.out = [x] ∧ x.path = p ∧ x.heard = false ∧ x.marked = false) ∨ false = false ∧ ∃ (p : Int), [O.d (D.v (Value.pointer none)), O.d (D.v (Value.int IntKind.i64 (0 : Int)))] = [O.d (D.v (Value.pointer none)), O.d (D.v (Value.int IntKind.i64 p))]) ∧
  True ∧ (∃ (p : Int), [O.d (D.v (Value.pointer none)), O.d (D.v (Value.int IntKind.i64 (0 : Int)))] = [O.d (D.v (Value.pointer none)), O.d (D.v (Value.int IntKind.i64 p))]) ∧
  True ∧ True ∧ True ∧ [O.d (D.v (Value.pointer none))] = [O.d (D.v (Value.pointer none))] ∧ True ∧ ((true = true ∧ ∃ (bs_1 : List Nat), ∃ (q : QuR), ∃ (p : PieR), [O.ptr (166 : Nat) [O.d (D.v (Value.int IntKind.u32 y.next)), O.own (86 : Nat) (D.recs (7 : Nat) y.wait.length (pieCell y.wait)), O.pown (169 : Nat) (171 : Nat) (11 : Nat) (some bs) y.out.length (itCell y.out)], O.agg [O.d (D.v (Value.int IntKind.u32 (0 : Int))), O.d (D.v (Value.int IntKind.u16 (0 : Int))), O.d (D.v (Value.int IntKind.u16 (0 : Int))), O.d (D.v (Value.bool false)), O.d (D.v (Value.bool false)), O.d (D.v (Value.bool false)), O.own (5 : Nat) (D.ints IntKind.u8 [c])]] = [O.ptr (166 : Nat) [O.d (D.v (Value.int IntKind.u32 q.next)), O.own (86 : Nat) (D.recs (7 : Nat) q.wait.length (pieCell q.wait)), O.pown (169 : Nat) (171 : Nat) (11 : Nat) (some bs_1) q.out.length (itCell q.out)], O.agg [O.d (D.v (Value.int IntKind.u32 p.tsn)), O.d (D.v (Value.int IntKind.u16 p.str)), O.d (D.v (Value.int IntKind.u16 p.seq)), O.d (D.v (Value.bool p.b)), O.d (D.v (Value.bool p.e)), O.d (D.v (Value.bool p.u)), O.own (5 : Nat) (D.ints IntKind.u8 p.bytes)]] ∧
  okQ q ∧ sm p.bytes.length) ∨ true = false ∧ ∃ (p : PieR), [O.ptr (166 : Nat) [O.d (D.v (Value.int IntKind.u32 y.next)), O.own (86 : Nat) (D.recs (7 : Nat) y.wait.length (pieCell y.wait)), O.pown (169 : Nat) (171 : Nat) (11 : Nat) (some bs) y.out.length (itCell y.out)], O.agg [O.d (D.v (Value.int IntKind.u32 (0 : Int))), O.d (D.v (Value.int IntKind.u16 (0 : Int))), O.d (D.v (Value.int IntKind.u16 (0 : Int))), O.d (D.v (Value.bool false)), O.d (D.v (Value.bool false)), O.d (D.v (Value.bool false)), O.own (5 : Nat) (D.ints IntKind.u8 [c])]] = [O.d (D.v (Value.pointer none)), O.agg [O.d (D.v (Value.int IntKind.u32 p.tsn)), O.d (D.v (Value.int IntKind.u16 p.str)), O.d (D.v (Value.int IntKind.u16 p.seq)), O.d (D.v (Value.bool p.b)), O.d (D.v (Value.bool p.e)), O.d (D.v (Value.bool p.u)), O.own (5 : Nat) (D.ints IntKind.u8 p.bytes)]] ∧
  sm p.bytes.length) ∧ ∀ (bs_1 : List Nat), bs_1.length = y_1.length → True ∧ ((0 : Int) ≤ (0 : Int) ∧ (0 : Int) < (↑(1 : Nat) : Int)) ∧ IntKind.u8 = IntKind.u8 ∧
  ((true = true ∧ ∃ (bs_2 : List Nat), ∃ (q : QuR), ∃ (p : Int), [O.ptr (166 : Nat) [O.d (D.v (Value.int IntKind.u32 (u32 (y.next + (1 : Int))))), O.own (86 : Nat) (D.recs (7 : Nat) (y_2 ++ [PieR.mk y.next (0 : Int) (0 : Int) false false false [c]]).length (pieCell (y_2 ++ [PieR.mk y.next (0 : Int) (0 : Int) false false false [c]]))), O.pown (169 : Nat) (171 : Nat) (11 : Nat) (some bs_1) y_1.length (itCell y_1)], O.d (D.v (Value.int IntKind.i64 (0 : Int)))] = [O.ptr (166 : Nat) [O.d (D.v (Value.int IntKind.u32 q.next)), O.own (86 : Nat) (D.recs (7 : Nat) q.wait.length (pieCell q.wait)), O.pown (169 : Nat) (171 : Nat) (11 : Nat) (some bs_2) q.out.length (itCell q.out)], O.d (D.v (Value.int IntKind.i64 p))] ∧
  okQ q) ∨ true = false ∧ ∃ (p : Int), [O.ptr (166 : Nat) [O.d (D.v (Value.int IntKind.u32 (u32 (y.next + (1 : Int))))), O.own (86 : Nat) (D.recs (7 : Nat) (y_2 ++ [PieR.mk y.next (0 : Int) (0 : Int) false false false [c]]).length (pieCell (y_2 ++ [PieR.mk y.next (0 : Int) (0 : Int) false false false [c]]))), O.pown (169 : Nat) (171 : Nat) (11 : Nat) (some bs_1) y_1.length (itCell y_1)], O.d (D.v (Value.int IntKind.i64 (0 : Int)))] = [O.d (D.v (Value.pointer none)), O.d (D.v (Value.int IntKind.i64 p))]) ∧
  ∀ (bs_2 : List Nat), bs_2.length = (itsOf y_1.length (itCell y_1) ++ [ItR.mk y_3 (0 : Int) (0 : Int) false false]).length → True ∧ SV.p (14 : Nat) (6 : Nat) = SV.p (14 : Nat) (6 : Nat) ∧
  ([!!decide ((↑y_3.bytes.length : Int) = (1 : Int))] = [!!decide ((↑y_3.bytes.length : Int) = (1 : Int))] ∧ SV.a (13 : Nat) = SV.a (13 : Nat)) ∧ ([!!decide ((↑y_3.bytes.length : Int) = (1 : Int))] = [!!decide ((↑y_3.bytes.length : Int) = (1 : Int))] ∧
  ((0 : Int) ≤ (0 : Int) ∧ (0 : Int) < (↑y_3.bytes.length : Int)) ∧ SV.e (13 : Nat) Try.prog.types[(5 : Nat)].size (Int.toNat (0 : Int)) (0 : Nat) = SV.e (13 : Nat) Try.prog.types[(5 : Nat)].size (Int.toNat (0 : Int)) (0 : Nat)) ∧
  ([!!decide ((↑y_3.bytes.length : Int) = (1 : Int))] = [!!decide ((↑y_3.bytes.length : Int) = (1 : Int))] ∧ SV.c (Value.int IntKind.u8 (y_3.bytes.getD (Int.toNat (0 : Int)) (0 : Int))) = SV.c (Value.int IntKind.u8 (y_3.bytes.getD (Int.toNat (0 : Int)) (0 : Int)))) ∧
  SV.c (Value.int IntKind.u8 c) = SV.c (Value.int IntKind.u8 c) ∧ ([!!decide ((↑y_3.bytes.length : Int) = (1 : Int))] = [!!decide ((↑y_3.bytes.length : Int) = (1 : Int))] ∧
  [!!decide ((↑y_3.bytes.length : Int) = (1 : Int))] = [!!decide ((↑y_3.bytes.length : Int) = (1 : Int))] ∧ True ∧ SV.c (Value.bool !decide (y_3.bytes.getD (Int.toNat (0 : Int)) (0 : Int) = c)) = SV.c (Value.bool !decide (y_3.bytes.getD (Int.toNat (0 : Int)) (0 : Int) = c))) ∧
  [!!decide ((↑y_3.bytes.length : Int) = (1 : Int))] = [!!decide ((↑y_3.bytes.length : Int) = (1 : Int))] ∧ sw (!decide ((↑y_3.bytes.length : Int) = (1 : Int)) || !decide (y_3.bytes.getD (Int.toNat (0 : Int)) (0 : Int) = c)) (false = true ∧
  (true && true) = true) (True ∧ ((0 : Int) ≤ (0 : Int) ∧ (0 : Int) < (↑y_3.bytes.length : Int)) ∧ IntKind.u8 = IntKind.u8 ∧ ((true = true ∧ ∃ (bs_3 : List Nat), ∃ (q : QuR), ∃ (x : ItR), ∃ (p : Int), [O.ptr (166 : Nat) [O.d (D.v (Value.int IntKind.u32 (u32 (y.next + (1 : Int))))), O.own (86 : Nat) (D.recs (7 : Nat) ([] : List PieR).length (pieCell [])), O.pown (169 : Nat) (171 : Nat) (11 : Nat) (some bs_2) (itsOf y_1.length (itCell y_1) ++ [ItR.mk y_3 (0 : Int) (0 : Int) false false]).length (itCell (itsOf y_1.length (itCell y_1) ++ [ItR.mk y_3 (0 : Int) (0 : Int) false false]))], O.d (D.v (Value.int IntKind.i64 (0 : Int)))] = [O.ptr (166 : Nat) [O.d (D.v (Value.int IntKind.u32 q.next)), O.own (86 : Nat) (D.recs (7 : Nat) q.wait.length (pieCell q.wait)), O.pown (169 : Nat) (171 : Nat) (11 : Nat) (some bs_3) q.out.length (itCell q.out)], O.d (D.v (Value.int IntKind.i64 p))] ∧
  q.out = [x] ∧ x.path = p ∧ x.heard = false ∧ x.marked = false) ∨ true = false ∧ ∃ (p : Int), [O.ptr (166 : Nat) [O.d (D.v (Value.int IntKind.u32 (u32 (y.next + (1 : Int))))), O.own (86 : Nat) (D.recs (7 : Nat) ([] : List PieR).length (pieCell [])), O.pown (169 : Nat) (171 : Nat) (11 : Nat) (some bs_2) (itsOf y_1.length (itCell y_1) ++ [ItR.mk y_3 (0 : Int) (0 : Int) false false]).length (itCell (itsOf y_1.length (itCell y_1) ++ [ItR.mk y_3 (0 : Int) (0 : Int) false false]))], O.d (D.v (Value.int IntKind.i64 (0 : Int)))] = [O.d (D.v (Value.pointer none)), O.d (D.v (Value.int IntKind.i64 p))]) ∧
  ∀ (bs_3 : List Nat), bs_3.length = (lateQ (QuR.mk (u32 (y.next + (1 : Int))) (piesOf (D.recs (7 : Nat) ([] : List PieR).length (pieCell []))) y_4) (0 : Int)).out.length →
  ((true = true ∧ ∃ (bs_4 : List Nat), ∃ (q : QuR), ∃ (p : Int), [O.ptr (166 : Nat) [O.d (D.v (Value.int IntKind.u32 (lateQ (QuR.mk (u32 (y.next + (1 : Int))) (piesOf (D.recs (7 : Nat) ([] : List PieR).length (pieCell []))) y_4) (0 : Int)).next)), O.own (86 : Nat) (D.recs (7 : Nat) (lateQ (QuR.mk (u32 (y.next + (1 : Int))) (piesOf (D.recs (7 : Nat) ([] : List PieR).length (pieCell []))) y_4) (0 : Int)).wait.length (pieCell (lateQ (QuR.mk (u32 (y.next + (1 : Int))) (piesOf (D.recs (7 : Nat) ([] : List PieR).length (pieCell []))) y_4) (0 : Int)).wait)), O.pown (169 : Nat) (171 : Nat) (11 : Nat) (some bs_3) (lateQ (QuR.mk (u32 (y.next + (1 : Int))) (piesOf (D.recs (7 : Nat) ([] : List PieR).length (pieCell []))) y_4) (0 : Int)).out.length (itCell (lateQ (QuR.mk (u32 (y.next + (1 : Int))) (piesOf (D.recs (7 : Nat) ([] : List PieR).length (pieCell []))) y_4) (0 : Int)).out)], O.d (D.v (Value.int IntKind.i64 (1 : Int)))] = [O.ptr (166 : Nat) [O.d (D.v (Value.int IntKind.u32 q.next)), O.own (86 : Nat) (D.recs (7 : Nat) q.wait.length (pieCell q.wait)), O.pown (169 : Nat) (171 : Nat) (11 : Nat) (some bs_4) q.out.length (itCell q.out)], O.d (D.v (Value.int IntKind.i64 p))] ∧
  okQ q) ∨ true = false ∧ ∃ (p : Int), [O.ptr (166 : Nat) [O.d (D.v (Value.int IntKind.u32 (lateQ (QuR.mk (u32 (y.next + (1 : Int))) (piesOf (D.recs (7 : Nat) ([] : List PieR).length (pieCell []))) y_4) (0 : Int)).next)), O.own (86 : Nat) (D.recs (7 : Nat) (lateQ (QuR.mk (u32 (y.next + (1 : Int))) (piesOf (D.recs (7 : Nat) ([] : List PieR).length (pieCell []))) y_4) (0 : Int)).wait.length (pieCell (lateQ (QuR.mk (u32 (y.next + (1 : Int))) (piesOf (D.recs (7 : Nat) ([] : List PieR).length (pieCell []))) y_4) (0 : Int)).wait)), O.pown (169 : Nat) (171 : Nat) (11 : Nat) (some bs_3) (lateQ (QuR.mk (u32 (y.next + (1 : Int))) (piesOf (D.recs (7 : Nat) ([] : List PieR).length (pieCell []))) y_4) (0 : Int)).out.length (itCell (lateQ (QuR.mk (u32 (y.next + (1 : Int))) (piesOf (D.recs (7 : Nat) ([] : List PieR).length (pieCell []))) y_4) (0 : Int)).out)], O.d (D.v (Value.int IntKind.i64 (1 : Int)))] = [O.d (D.v (Value.pointer none)), O.d (D.v (Value.int IntKind.i64 p))]) ∧
  ∀ (bs_4 : List Nat), bs_4.length = ((itsOf (lateQ (QuR.mk (u32 (y.next + (1 : Int))) (piesOf (D.recs (7 : Nat) ([] : List PieR).length (pieCell []))) y_4) (0 : Int)).out.length (itCell (lateQ (QuR.mk (u32 (y.next + (1 : Int))) (piesOf (D.recs (7 : Nat) ([] : List PieR).length (pieCell []))) y_4) (0 : Int)).out)).set (0 : Nat) (sendI (1 : Int) ((itsOf (lateQ (QuR.mk (u32 (y.next + (1 : Int))) (piesOf (D.recs (7 : Nat) ([] : List PieR).length (pieCell []))) y_4) (0 : Int)).out.length (itCell (lateQ (QuR.mk (u32 (y.next + (1 : Int))) (piesOf (D.recs (7 : Nat) ([] : List PieR).length (pieCell []))) y_4) (0 : Int)).out)).getD (0 : Nat) noIt))).length →
  SV.p (20 : Nat) (6 : Nat) = SV.p (20 : Nat) (6 : Nat) ∧ ([true] = [true] ∧ SV.a (19 : Nat) = SV.a (19 : Nat)) ∧ ([true] = [true] ∧ SV.c (Value.int IntKind.i64 (↑((itsOf (lateQ (QuR.mk (u32 (y.next + (1 : Int))) (piesOf (D.recs (7 : Nat) ([] : List PieR).length (pieCell []))) y_4) (0 : Int)).out.length (itCell (lateQ (QuR.mk (u32 (y.next + (1 : Int))) (piesOf (D.recs (7 : Nat) ([] : List PieR).length (pieCell []))) y_4) (0 : Int)).out)).getD (0 : Nat) noIt).pc.bytes.length : Int)) = SV.c (Value.int IntKind.i64 (↑((itsOf (lateQ (QuR.mk (u32 (y.next + (1 : Int))) (piesOf (D.recs (7 : Nat) ([] : List PieR).length (pieCell []))) y_4) (0 : Int)).out.length (itCell (lateQ (QuR.mk (u32 (y.next + (1 : Int))) (piesOf (D.recs (7 : Nat) ([] : List PieR).length (pieCell []))) y_4) (0 : Int)).out)).getD (0 : Nat) noIt).pc.bytes.length : Int))) ∧
  ([true] = [true] ∧ True ∧ SV.c (Value.bool (decide ((↑((itsOf (lateQ (QuR.mk (u32 (y.next + (1 : Int))) (piesOf (D.recs (7 : Nat) ([] : List PieR).length (pieCell []))) y_4) (0 : Int)).out.length (itCell (lateQ (QuR.mk (u32 (y.next + (1 : Int))) (piesOf (D.recs (7 : Nat) ([] : List PieR).length (pieCell []))) y_4) (0 : Int)).out)).getD (0 : Nat) noIt).pc.bytes.length : Int) = (1 : Int)))) = SV.c (Value.bool (decide ((↑((itsOf (lateQ (QuR.mk (u32 (y.next + (1 : Int))) (piesOf (D.recs (7 : Nat) ([] : List PieR).length (pieCell []))) y_4) (0 : Int)).out.length (itCell (lateQ (QuR.mk (u32 (y.next + (1 : Int))) (piesOf (D.recs (7 : Nat) ([] : List PieR).length (pieCell []))) y_4) (0 : Int)).out)).getD (0 : Nat) noIt).pc.bytes.length : Int) = (1 : Int))))) ∧
  [true] = [true] ∧ SV.p (20 : Nat) (6 : Nat) = SV.p (20 : Nat) (6 : Nat) ∧ ([true && decide ((↑((itsOf (lateQ (QuR.mk (u32 (y.next + (1 : Int))) (piesOf (D.recs (7 : Nat) ([] : List PieR).length (pieCell []))) y_4) (0 : Int)).out.length (itCell (lateQ (QuR.mk (u32 (y.next + (1 : Int))) (piesOf (D.recs (7 : Nat) ([] : List PieR).length (pieCell []))) y_4) (0 : Int)).out)).getD (0 : Nat) noIt).pc.bytes.length : Int) = (1 : Int))] = [true && decide ((↑((itsOf (lateQ (QuR.mk (u32 (y.next + (1 : Int))) (piesOf (D.recs (7 : Nat) ([] : List PieR).length (pieCell []))) y_4) (0 : Int)).out.length (itCell (lateQ (QuR.mk (u32 (y.next + (1 : Int))) (piesOf (D.recs (7 : Nat) ([] : List PieR).length (pieCell []))) y_4) (0 : Int)).out)).getD (0 : Nat) noIt).pc.bytes.length : Int) = (1 : Int))] ∧
  SV.a (19 : Nat) = SV.a (19 : Nat)) ∧ ([true && decide ((↑((itsOf (lateQ (QuR.mk (u32 (y.next + (1 : Int))) (piesOf (D.recs (7 : Nat) ([] : List PieR).length (pieCell []))) y_4) (0 : Int)).out.length (itCell (lateQ (QuR.mk (u32 (y.next + (1 : Int))) (piesOf (D.recs (7 : Nat) ([] : List PieR).length (pieCell []))) y_4) (0 : Int)).out)).getD (0 : Nat) noIt).pc.bytes.length : Int) = (1 : Int))] = [true && decide ((↑((itsOf (lateQ (QuR.mk (u32 (y.next + (1 : Int))) (piesOf (D.recs (7 : Nat) ([] : List PieR).length (pieCell []))) y_4) (0 : Int)).out.length (itCell (lateQ (QuR.mk (u32 (y.next + (1 : Int))) (piesOf (D.recs (7 : Nat) ([] : List PieR).length (pieCell []))) y_4) (0 : Int)).out)).getD (0 : Nat) noIt).pc.bytes.length : Int) = (1 : Int))] ∧
  ((0 : Int) ≤ (0 : Int) ∧ (0 : Int) < (↑((itsOf (lateQ (QuR.mk (u32 (y.next + (1 : Int))) (piesOf (D.recs (7 : Nat) ([] : List PieR).length (pieCell []))) y_4) (0 : Int)).out.length (itCell (lateQ (QuR.mk (u32 (y.next + (1 : Int))) (piesOf (D.recs (7 : Nat) ([] : List PieR).length (pieCell []))) y_4) (0 : Int)).out)).getD (0 : Nat) noIt).pc.bytes.length : Int)) ∧
  SV.e (19 : Nat) Try.prog.types[(5 : Nat)].size (Int.toNat (0 : Int)) (0 : Nat) = SV.e (19 : Nat) Try.prog.types[(5 : Nat)].size (Int.toNat (0 : Int)) (0 : Nat)) ∧
  ([true && decide ((↑((itsOf (lateQ (QuR.mk (u32 (y.next + (1 : Int))) (piesOf (D.recs (7 : Nat) ([] : List PieR).length (pieCell []))) y_4) (0 : Int)).out.length (itCell (lateQ (QuR.mk (u32 (y.next + (1 : Int))) (piesOf (D.recs (7 : Nat) ([] : List PieR).length (pieCell []))) y_4) (0 : Int)).out)).getD (0 : Nat) noIt).pc.bytes.length : Int) = (1 : Int))] = [true && decide ((↑((itsOf (lateQ (QuR.mk (u32 (y.next + (1 : Int))) (piesOf (D.recs (7 : Nat) ([] : List PieR).length (pieCell []))) y_4) (0 : Int)).out.length (itCell (lateQ (QuR.mk (u32 (y.next + (1 : Int))) (piesOf (D.recs (7 : Nat) ([] : List PieR).length (pieCell []))) y_4) (0 : Int)).out)).getD (0 : Nat) noIt).pc.bytes.length : Int) = (1 : Int))] ∧
  SV.c (Value.int IntKind.u8 (((itsOf (lateQ (QuR.mk (u32 (y.next + (1 : Int))) (piesOf (D.recs (7 : Nat) ([] : List PieR).length (pieCell []))) y_4) (0 : Int)).out.length (itCell (lateQ (QuR.mk (u32 (y.next + (1 : Int))) (piesOf (D.recs (7 : Nat) ([] : List PieR).length (pieCell []))) y_4) (0 : Int)).out)).getD (0 : Nat) noIt).pc.bytes.getD (Int.toNat (0 : Int)) (0 : Int))) = SV.c (Value.int IntKind.u8 (((itsOf (lateQ (QuR.mk (u32 (y.next + (1 : Int))) (piesOf (D.recs (7 : Nat) ([] : List PieR).length (pieCell []))) y_4) (0 : Int)).out.length (itCell (lateQ (QuR.mk (u32 (y.next + (1 : Int))) (piesOf (D.recs (7 : Nat) ([] : List PieR).length (pieCell []))) y_4) (0 : Int)).out)).getD (0 : Nat) noIt).pc.bytes.getD (Int.toNat (0 : Int)) (0 : Int)))) ∧
  SV.c (Value.int IntKind.u8 c) = SV.c (Value.int IntKind.u8 c) ∧ ([true && decide ((↑((itsOf (lateQ (QuR.mk (u32 (y.next + (1 : Int))) (piesOf (D.recs (7 : Nat) ([] : List PieR).length (pieCell []))) y_4) (0 : Int)).out.length (itCell (lateQ (QuR.mk (u32 (y.next + (1 : Int))) (piesOf (D.recs (7 : Nat) ([] : List PieR).length (pieCell []))) y_4) (0 : Int)).out)).getD (0 : Nat) noIt).pc.bytes.length : Int) = (1 : Int))] = [true && decide ((↑((itsOf (lateQ (QuR.mk (u32 (y.next + (1 : Int))) (piesOf (D.recs (7 : Nat) ([] : List PieR).length (pieCell []))) y_4) (0 : Int)).out.length (itCell (lateQ (QuR.mk (u32 (y.next + (1 : Int))) (piesOf (D.recs (7 : Nat) ([] : List PieR).length (pieCell []))) y_4) (0 : Int)).out)).getD (0 : Nat) noIt).pc.bytes.length : Int) = (1 : Int))] ∧
  [true && decide ((↑((itsOf (lateQ (QuR.mk (u32 (y.next + (1 : Int))) (piesOf (D.recs (7 : Nat) ([] : List PieR).length (pieCell []))) y_4) (0 : Int)).out.length (itCell (lateQ (QuR.mk (u32 (y.next + (1 : Int))) (piesOf (D.recs (7 : Nat) ([] : List PieR).length (pieCell []))) y_4) (0 : Int)).out)).getD (0 : Nat) noIt).pc.bytes.length : Int) = (1 : Int))] = [true && decide ((↑((itsOf (lateQ (QuR.mk (u32 (y.next + (1 : Int))) (piesOf (D.recs (7 : Nat) ([] : List PieR).length (pieCell []))) y_4) (0 : Int)).out.length (itCell (lateQ (QuR.mk (u32 (y.next + (1 : Int))) (piesOf (D.recs (7 : Nat) ([] : List PieR).length (pieCell []))) y_4) (0 : Int)).out)).getD (0 : Nat) noIt).pc.bytes.length : Int) = (1 : Int))] ∧
  True ∧ SV.c (Value.bool (decide (((itsOf (lateQ (QuR.mk (u32 (y.next + (1 : Int))) (piesOf (D.recs (7 : Nat) ([] : List PieR).length (pieCell []))) y_4) (0 : Int)).out.length (itCell (lateQ (QuR.mk (u32 (y.next + (1 : Int))) (piesOf (D.recs (7 : Nat) ([] : List PieR).length (pieCell []))) y_4) (0 : Int)).out)).getD (0 : Nat) noIt).pc.bytes.getD (Int.toNat (0 : Int)) (0 : Int) = c))) = SV.c (Value.bool (decide (((itsOf (lateQ (QuR.mk (u32 (y.next + (1 : Int))) (piesOf (D.recs (7 : Nat) ([] : List PieR).length (pieCell []))) y_4) (0 : Int)).out.length (itCell (lateQ (QuR.mk (u32 (y.next + (1 : Int))) (piesOf (D.recs (7 : Nat) ([] : List PieR).length (pieCell []))) y_4) (0 : Int)).out)).getD (0 : Nat) noIt).pc.bytes.getD (Int.toNat (0 : Int)) (0 : Int) = c)))) ∧
  [true && decide ((↑((itsOf (lateQ (QuR.mk (u32 (y.next + (1 : Int))) (piesOf (D.recs (7 : Nat) ([] : List PieR).length (pieCell []))) y_4) (0 : Int)).out.length (itCell (lateQ (QuR.mk (u32 (y.next + (1 : Int))) (piesOf (D.recs (7 : Nat) ([] : List PieR).length (pieCell []))) y_4) (0 : Int)).out)).getD (0 : Nat) noIt).pc.bytes.length : Int) = (1 : Int))] = [true && decide ((↑((itsOf (lateQ (QuR.mk (u32 (y.next + (1 : Int))) (piesOf (D.recs (7 : Nat) ([] : List PieR).length (pieCell []))) y_4) (0 : Int)).out.length (itCell (lateQ (QuR.mk (u32 (y.next + (1 : Int))) (piesOf (D.recs (7 : Nat) ([] : List PieR).length (pieCell []))) y_4) (0 : Int)).out)).getD (0 : Nat) noIt).pc.bytes.length : Int) = (1 : Int))] ∧
  (true && decide ((↑((itsOf (lateQ (QuR.mk (u32 (y.next + (1 : Int))) (piesOf (D.recs (7 : Nat) ([] : List PieR).length (pieCell []))) y_4) (0 : Int)).out.length (itCell (lateQ (QuR.mk (u32 (y.next + (1 : Int))) (piesOf (D.recs (7 : Nat) ([] : List PieR).length (pieCell []))) y_4) (0 : Int)).out)).getD (0 : Nat) noIt).pc.bytes.length : Int) = (1 : Int)) && decide (((itsOf (lateQ (QuR.mk (u32 (y.next + (1 : Int))) (piesOf (D.recs (7 : Nat) ([] : List PieR).length (pieCell []))) y_4) (0 : Int)).out.length (itCell (lateQ (QuR.mk (u32 (y.next + (1 : Int))) (piesOf (D.recs (7 : Nat) ([] : List PieR).length (pieCell []))) y_4) (0 : Int)).out)).getD (0 : Nat) noIt).pc.bytes.getD (Int.toNat (0 : Int)) (0 : Int) = c)) = true ∧
  (true && true) = true) := by
  simp only [↓sw_iff, ↓Bool.and_eq_true, ↓decide_eq_true_eq, true_and, and_true, Bool.true_and, Nat.zero_add, List.length_cons, List.length_nil, List.length_append, piesOf_pies, itsOf_its]
  intro f c hf hc
  have s1 (x : Int) : sm (PieR.mk 0 0 0 false false false [x]).bytes.length := by unfold sm; show 1 ≤ _; decide
  have l1 : (0 : Int) ≤ 0 ∧ (0 : Int) < ((1 : Nat) : Int) := by decide
  refine ⟨.inr ⟨pc1 1, rfl, s1 1⟩, .inr ⟨0, rfl⟩, ⟨_, rfl⟩, ⟨f, rfl⟩, fun bs hb => ⟨.inr ⟨0, rfl⟩, ⟨0, rfl⟩, .inl ⟨bs, newQ f, pc1 c, rfl, okQ_new hf, s1 c⟩, fun bs1 _ => ⟨l1, .inl ⟨bs1, qn1 f c, 0, rfl, ok_qn1 f c⟩, fun bs2 _ => ⟨l1, fun hx => ?_, fun _ => ⟨l1, .inl ⟨bs2, qn2 f c, it1 f c, 0, rfl, rfl, rfl, rfl, rfl⟩, fun bs3 _ => ?_⟩⟩⟩⟩⟩
  · have hx' : ((!decide (((1 : Nat) : Int) = 1)) || !decide (c = c)) = true := hx
    simp at hx'
  · refine ⟨.inl ⟨bs3, qn3 f c, 1, rfl, ok_qn3 f c⟩, fun bs4 _ => ?_⟩
    exact ⟨l1, rfl, rfl⟩
set_option maxRecDepth 100000 in
theorem ok14 : FnIs Try.prog 14 nilSC := by
  refine fnIs (C := (ctrs n7)) (by kernel_rfl) n7_ok Try.func14 (code := code14) (by kernel_rfl) (by kernel_rfl) ?_
  rintro a ⟨f, c, rfl, hf, hc⟩
  exact ⟨anns [] [7], kcast (vc14 f c hf hc) (by kernel_rfl)⟩

end Go.ZR
