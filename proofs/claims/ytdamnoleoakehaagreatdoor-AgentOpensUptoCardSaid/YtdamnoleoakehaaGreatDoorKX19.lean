/- Part 19 of what the closing text rests on. -/
import Derived.Test.YtdamnoleoakehaaGreatDoorKX18
import Derived.RangeFuncNested
import Derived.RangeFuncBound
import Derived.RangeFuncCalls
import Derived.RangeFuncLeaves
import Derived.RangeFuncStops
import Derived.RangeFuncSeq
import Derived.Shelf.Abstract
import Derived.Shelf.AbstractIn
import Derived.Shelf.RegionOpen
import Derived.Sort.MapsRangeIn
import Derived.Maps.OwnIn
import Derived.Maps.AppendAt
import Derived.WalkKit
import Derived.OwnWalkIn
import Derived.TacticsInMore
import Derived.RegionIn
import Derived.LoopNIn
import Derived.LoopIn
import Derived.Lib.SlKeysI
import Derived.Test.YtdamnoleoakehaaGreatDoorChecked
import Derived.RangeFuncBox
import Derived.WalkSmall
namespace Go.Proofs.YtdamnoleoakehaaGreatDoor
open Go.Proofs
open Go.RowKit Go.Maps Go.Sort Go.Shelf
attribute [local go_sem] Oper.semAt_some

def CameU {H : Type} (D0 : DataW H) (left : Lit → Bool) (ss : List Int) : Prop :=
  ss.Nodup ∧ ∀ x, x ∈ ss ↔ has D0 (.int .u32 x) = true ∧ left (.int .u32 x) = false
theorem CameU.start {H : Type} (D0 : DataW H) : CameU D0 (has D0) [] := ⟨List.nodup_nil, fun x => by cases has D0 (.int .u32 x) <;> simp⟩
theorem CameU.step {H : Type} {D0 : DataW H} {left : Lit → Bool} {ss : List Int} (h : CameU D0 left ss) {x : Int} {y : DataW H} (hlk : left (.int .u32 x) = true) (hat : ∀ zd, D0.atKey (.int .u32 x) zd = y) : CameU D0 (fun z => left z && !z.sameKey (.int .u32 x)) (ss ++ [x]) := by
  have hhas : has D0 (.int .u32 x) = true := has_true_of_atKey hat
  have hnew : x ∉ ss := fun hx => by have := ((h.2 x).1 hx).2; rw [hlk] at this; cases this
  refine ⟨List.nodup_append.2 ⟨h.1, by simp, fun a ha b hb => by simp at hb; subst hb; exact fun e => hnew (e ▸ ha)⟩, fun y => ?_⟩
  by_cases hy : y = x
  · subst hy; simp [hhas, Lit.sameKey]
  · simp [h.2 y, hy, Lit.sameKey]

set_option maxRecDepth 100000 in
set_option maxHeartbeats 1000000 in
theorem Tryz.keys1U {H : Type} (n : Nat) (hn : 1 ≤ n) (l Bm b nn : Nat) (D0 : DataW H) {R : Value → Option (DataW H × List MemPlace)} (J Jx : List Int → World → Prop)
    (hY : ∀ pre x W, J pre W → pre.length < Maps.size D0 → YieldAt Fence.wide (n - 1) Tryz.prog l #[.int .u32 x] W fun e W' =>
      (e = .returned (.bool true) ∧ J (pre ++ [x]) W' ∧ KeepsWalks W W') ∨ (e = .returned (.bool false) ∧ Jx (pre ++ [x]) W'))
    (W : World) (hJ : AbidesFrom W.heap.size J) (hm : W.cell? ⟨Bm, 0, none⟩ = some (.map (some b))) (hown : W.ownsMap Tryz.prog 34 R b nn D0) (h0 : J [] W) :
    CallsIn Fence.wide n Tryz.prog 215 #[.func (.yield l) #[] #[], .pointer (some ⟨Bm, 0, none⟩)] W fun e W' => (∃ v, e = .returned v) ∧
      ((∃ ss : List Int, (ss.Nodup ∧ ∀ x, x ∈ ss ↔ has D0 (.int .u32 x) = true) ∧ J ss W') ∨ (∃ pre : List Int, Jx pre W')) := by
  refine callsIn_of_wp Tryz.func215 rfl trivial ?_ rfl
  simp only [Tryz.ntmps215, List.size_toArray, List.length_cons, List.length_nil, Nat.reduceAdd, Nat.reduceSub, Array.replicate_succ, Array.replicate_zero, List.push_toArray, List.append_toArray, List.nil_append, List.cons_append]
  gi_wp2_with (first
    | (gi_at_range; refine wpListIn_range_own _ rfl _ 174 rfl 34 267 (int_keyed Tryz.underlying34) Tryz.underlying174 _ b nn _ rfl hown ?_; intro w0 hrg0 hg0 hs0)
    | gi_in)
  go_frame
  gi_loopw [3] (fun _ wr => ∃ (left : Lit → Bool) (cnt : Nat) (ss : List Int), wr.ranges Tryz.prog 34 R b W.heap.size nn D0 left cnt ∧ ss.length + cnt ≤ Maps.size D0 ∧ CameU D0 left ss ∧ J ss wr)
    (fun _ wr => wr.rangeLeft b W.heap.size)
  case atStart =>
    exact ⟨_, _, [], hrg0, by simp, CameU.start D0, hJ [] W w0 none h0 hg0 (fun r e => by cases e)⟩
  case round =>
    obtain ⟨left, cnt, ss, hrg, hcs, hC, hJs⟩ := hrel
    gi_wp2_with (first
      | (gi_at_next; refine wpListIn_next_ranges _ rfl _ rfl 34 (int_keyed Tryz.underlying34) R (Value.int .u32) id (fun key kl hk => by obtain ⟨x, hx, _⟩ := Maps.keyOf_int_inv Tryz.underlying34 hk; exact ⟨x, hx⟩) (fun v _ _ => ⟨v, rfl⟩) b W.heap.size nn _ _ _ rfl hrg ?_ ?_)
      | gi_in)
    · intro hc0 hl0
      gi_wp2
      go_end0
      exact ⟨⟨_, rfl⟩, .inl ⟨ss, ⟨hC.1, fun x => by rw [hC.2 x, hl0]; simp⟩, hJs⟩⟩
    · intro x c kl yd yp w2 cnt2 hkey hlk hv hat hrg2 hlt hg2 hs2 hen
      obtain ⟨x', ex, rfl, _⟩ := Maps.keyOf_int_inv Tryz.underlying34 hkey
      obtain rfl : x = x' := by cases ex; rfl
      have hJ2 : J ss w2 := hJ ss wr w2 (some W.heap.size) hJs hg2 (fun r e => by cases e; exact ⟨Nat.le_refl _, hrg.iter_walk⟩)
      obtain ⟨fn, tmps, assign, body, hy, hR⟩ := hY ss x w2 hJ2 (by omega)
      clear hs2
      gi_wp2
      refine hR.mono ?_
      have hC2 := hC.step hlk hat
      rintro e W3 (⟨rfl, hJ3, hk3⟩ | ⟨rfl, hJx3⟩)
      · gi_wp2
        have hrg3 := hrg2.of_walks hk3
        go_roundw
        case rel => exact ⟨_, cnt2, ss ++ [x], hrg3, by simp; omega, hC2, hJ3⟩
        case measure => rw [hrg3.left_eq, hrg.left_eq]; exact hlt
      · gi_wp2
        refine bodyPost_ret (results_none rfl _ _ _) rfl ?_
        exact ⟨⟨_, rfl⟩, .inr ⟨ss ++ [x], hJx3⟩⟩

theorem Tryz.keys_stopsU {H : Type} (n : Nat) (hn : 1 ≤ n) (Bm b nn : Nat) (D0 : DataW H) {R : Value → Option (DataW H × List MemPlace)} (w : World) (hBm : Bm < w.heap.size)
    (hm : w.cell? ⟨Bm, 0, none⟩ = some (.map (some b))) (hown : w.ownsMap Tryz.prog 34 R b nn D0) :
    SeqStops Fence.wide n Tryz.prog 215 #[.pointer (some ⟨Bm, 0, none⟩)] (Value.int .u32) (fun ss => ss.Nodup ∧ ∀ x, x ∈ ss ↔ has D0 (.int .u32 x) = true) (fun _ => True) (Maps.size D0) w := fun l J Jx W hW hJ hJx hY h0 => by
  have hown' : W.ownsMap Tryz.prog 34 R b nn D0 := by
    have hbl := hown.lt
    obtain ⟨es, clock, hb, Ft, hs, hD⟩ := hown
    exact ⟨es, clock, (hW.block b hbl).trans hb, Ft, hs, hD⟩
  refine (Tryz.keys1U n hn l Bm b nn D0 J Jx hY W hJ ((hW.cell (p := ⟨Bm, 0, none⟩) hBm).trans hm) hown' h0).mono fun e W' ⟨h1, h2⟩ => ⟨h1, ?_⟩
  rcases h2 with h2 | ⟨pre, h2⟩
  · exact .inl h2
  · exact .inr ⟨pre, trivial, h2⟩
end Go.Proofs.YtdamnoleoakehaaGreatDoor

namespace Go.Proofs.YtdamnoleoakehaaGreatDoor
open Go.Proofs
open Go.RowKit Go.Maps Go.Sort Go.Shelf
attribute [local go_sem] Oper.semAt_some

theorem Tryz.info34p : (Tryz.prog.info? 34).map (fun i => (i.zero, i.size, i.bytes)) = some (some (.int .u32 0), 1, 4) := by kernel_rfl

set_option maxRecDepth 100000 in
set_option maxHeartbeats 2000000 in
theorem Tryz.appendSeqU (n : Nat) (hn : 2 ≤ n) (g : Nat) (lb : Array Value) (eg : ∀ args w, (callFunc g args).run Tryz.prog w = .ok (.enter g args) w) (S Sp : List Int → Prop) (N : Nat) (hN : N ≤ maxLen) (hNb : N * 4 ≤ 140737488355328) (w : World)
    (hseq : SeqStops Fence.wide (n - 1) Tryz.prog g lb (Value.int .u32) S Sp N w) :
    CallsIn Fence.wide n Tryz.prog 231 #[.slice none 0 0, .func (.func g) #[] lb] w fun e W' => ∃ (v : Value) (ss : List Int), e = .returned v ∧ S ss ∧ W'.ownsRow w.heap.size 34 1 v ss.length (ss.map (Value.int .u32)) ∧ (v = .slice none 0 0 ↔ ss = []) ∧ Below w.heap.size w W' := by
  have h1 : 1 ≤ n := by omega
  obtain ⟨i0, hi, hz0, hz1, hz2⟩ := info_parts Tryz.info34p
  refine callsIn_of_wp_marks Tryz.func231 rfl trivial ?_ rfl
  simp only [Tryz.ntmps231, List.size_toArray, List.length_cons, List.length_nil, Nat.reduceAdd, Nat.reduceSub, Array.replicate_succ, Array.replicate_zero, List.push_toArray, List.append_toArray, List.nil_append, List.cons_append]
  gi_wp2
  have bO := Boxed.new w 269 (.slice none 0 0)
  have hB0 : Below w.heap.size w (w.alloc (.cells #[.slice none 0 0] 269)) := (Below.refl _ w).alloc (Nat.le_refl _) _
  refine wpIn_rangeFunc_ownG rfl h1 (gf := g) (lb := lb) rfl trivial eg
    (encs := fun x : Int => #[Value.int .u32 x]) (Kp := KeepsWalks) hseq walksK_t walksK_b hB0 (fun _ => rfl)
    (fun pre W => (∃ v, Boxed W w.heap.size 269 v ∧ W.ownsRow w.heap.size 34 1 v pre.length (pre.map (Value.int .u32)) ∧ (v = .slice none 0 0 ↔ pre = [])) ∧ Below w.heap.size w W)
    (fun _ _ _ => False)
    (OwnFrom.and (Own.from (holdsRow_own w.heap.size w.heap.size 269 34 1 (fun pre : List Int => pre.length) (fun pre => pre.map (Value.int .u32)) (fun pre v => v = .slice none 0 0 ↔ pre = [])) _) (ownFrom_below (Nat.le_refl _) (by simp)))
    (fun _ _ _ _ _ hs _ _ => hs)
    ⟨⟨_, bO, World.ownsRow_nil _ _ _ _, by simp⟩, hB0⟩
    (fun x => { tmps := #[.slice none 0 0, .func (.func g) #[] lb, .pointer (some ⟨w.heap.size, 0, none⟩), undef, .slice none 0 0, .int .u32 x, .func (.func g) #[] lb, .int .u32 x, undef, undef, undef, undef, undef], defers := [] }) ?assign ?body ?done ?stop
  case assign =>
    intro l x W K hK
    gi_wp2
    exact hK
  case body =>
    rintro l pre x W ⟨⟨v, hv, hrow, hnil⟩, hB⟩ hlt
    have hc := hv.cell
    gi_wp2_with (gi_at_builtin; refine wpListIn_append_own _ rfl _ _ 269 rfl w.heap.size 34 i0 (.int .u32 0) 1 4 Tryz.underlying269 hi hz0 hz1 hz2 rfl (by decide) _ _ _ rfl (hrow.alloc _) ⟨W.heap.size, 0, none⟩ 1 1 [.int .u32 x] rfl rfl (cell_one_new _ _ _) (by simp [Value.oneCell']) (by omega) (by omega) (by have := hB.size; simp; omega) ?_; intro v' w1 hown' hgrow _; obtain ⟨g', cap', rfl⟩ := ownsRow_succ hown'; obtain ⟨hv1, hv2, hr2, hk2, hb2⟩ := hv.appended (by decide) hrow hB.size (Nat.le_refl _) hown' hgrow; have hc1 := hv1.cell; have hf1 := hv1.frozen)
    exact ⟨hk2.from _, hk2.walks, ⟨_, hv2, by simpa using hr2, by simp⟩, hB.trans hb2⟩
  case done =>
    rintro D ys W hD hS ⟨⟨v, hv, hrow, hnil⟩, hB⟩ hK
    have hc := hv.cell
    gi_wp2
    refine ⟨by simp, .inl ⟨_, _, rfl, run_takeDeferred hK, ?_⟩⟩
    exact ⟨_, results_tmp rfl _ _ _, v, ys, rfl, hS, ownsRow_putObj hrow _ hK rfl, hnil, hB.trans (belowK_b (w := w) (Nat.le_refl _) W D _ _ (by simp at hD; omega) hK rfl rfl)⟩
  case stop =>
    rintro D c pre W _ _ h _
    exact h.elim

theorem Tryz.collectU (n : Nat) (hn : 3 ≤ n) (g : Nat) (lb : Array Value) (eg : ∀ args w, (callFunc g args).run Tryz.prog w = .ok (.enter g args) w) (S Sp : List Int → Prop) (N : Nat) (hN : N ≤ maxLen) (hNb : N * 4 ≤ 140737488355328) (w : World)
    (hseq : SeqStops Fence.wide (n - 1 - 1) Tryz.prog g lb (Value.int .u32) S Sp N w) :
    CallsIn Fence.wide n Tryz.prog 213 #[.func (.func g) #[] lb] w fun e W' => ∃ (v : Value) (ss : List Int), e = .returned v ∧ S ss ∧ W'.ownsRow w.heap.size 34 1 v ss.length (ss.map (Value.int .u32)) ∧ (v = .slice none 0 0 ↔ ss = []) ∧ Below w.heap.size w W' := by
  have h1 : 1 ≤ n := by omega
  have hc := Tryz.appendSeqU (n - 1) (by omega) g lb eg S Sp N hN hNb w hseq
  have hf : Fence.wide.fn 231 := trivial
  refine callsIn_of_wp Tryz.func213 rfl trivial ?_ rfl
  simp only [Tryz.ntmps213, List.size_toArray, List.length_cons, List.length_nil, Nat.reduceAdd, Nat.reduceSub, Array.replicate_succ, Array.replicate_zero, List.push_toArray, List.append_toArray, List.nil_append, List.cons_append]
  gi_wp2_with (gi_at_call 231; refine hc.mono ?_; rintro e w' ⟨v, ss, rfl, hS, hrow, hnil, hb⟩)
  go_ret
  exact ⟨v, ss, rfl, hS, hrow, hnil, hb⟩
end Go.Proofs.YtdamnoleoakehaaGreatDoor

namespace Go.Proofs.YtdamnoleoakehaaGreatDoor
open Go.Proofs
open Go.RowKit Go.Maps Go.Sort Go.Shelf
attribute [local go_sem] Oper.semAt_some

def Came {H : Type} (D0 : DataW H) (left : Lit → Bool) (ss : List Int) : Prop :=
  ss.Nodup ∧ ∀ x, x ∈ ss ↔ has D0 (.int .i64 x) = true ∧ left (.int .i64 x) = false
theorem Came.start {H : Type} (D0 : DataW H) : Came D0 (has D0) [] := ⟨List.nodup_nil, fun x => by cases has D0 (.int .i64 x) <;> simp⟩
theorem Came.step {H : Type} {D0 : DataW H} {left : Lit → Bool} {ss : List Int} (h : Came D0 left ss) {x : Int} {y : DataW H} (hlk : left (.int .i64 x) = true) (hat : ∀ zd, D0.atKey (.int .i64 x) zd = y) : Came D0 (fun z => left z && !z.sameKey (.int .i64 x)) (ss ++ [x]) := by
  have hhas : has D0 (.int .i64 x) = true := has_true_of_atKey hat
  have hnew : x ∉ ss := fun hx => by have := ((h.2 x).1 hx).2; rw [hlk] at this; cases this
  refine ⟨List.nodup_append.2 ⟨h.1, by simp, fun a ha b hb => by simp at hb; subst hb; exact fun e => hnew (e ▸ ha)⟩, fun y => ?_⟩
  by_cases hy : y = x
  · subst hy; simp [hhas, Lit.sameKey]
  · simp [h.2 y, hy, Lit.sameKey]

set_option maxRecDepth 100000 in
set_option maxHeartbeats 1000000 in
theorem Tryz.keys1S {H : Type} (n : Nat) (hn : 1 ≤ n) (l Bm b nn : Nat) (D0 : DataW H) {R : Value → Option (DataW H × List MemPlace)} (J Jx : List Int → World → Prop)
    (hY : ∀ pre x W, J pre W → pre.length < Maps.size D0 → YieldAt Fence.wide (n - 1) Tryz.prog l #[.int .i64 x] W fun e W' =>
      (e = .returned (.bool true) ∧ J (pre ++ [x]) W' ∧ KeepsWalks W W') ∨ (e = .returned (.bool false) ∧ Jx (pre ++ [x]) W'))
    (W : World) (hJ : AbidesFrom W.heap.size J) (hm : W.cell? ⟨Bm, 0, none⟩ = some (.map (some b))) (hown : W.ownsMap Tryz.prog 3 R b nn D0) (h0 : J [] W) :
    CallsIn Fence.wide n Tryz.prog 151 #[.func (.yield l) #[] #[], .pointer (some ⟨Bm, 0, none⟩)] W fun e W' => (∃ v, e = .returned v) ∧
      ((∃ ss : List Int, (ss.Nodup ∧ ∀ x, x ∈ ss ↔ has D0 (.int .i64 x) = true) ∧ J ss W') ∨ (∃ pre : List Int, Jx pre W')) := by
  refine callsIn_of_wp Tryz.func151 rfl trivial ?_ rfl
  simp only [Tryz.ntmps151, List.size_toArray, List.length_cons, List.length_nil, Nat.reduceAdd, Nat.reduceSub, Array.replicate_succ, Array.replicate_zero, List.push_toArray, List.append_toArray, List.nil_append, List.cons_append]
  gi_wp2_with (first
    | (gi_at_range; refine wpListIn_range_own _ rfl _ 98 rfl 3 108 (int_keyed Tryz.underlying3) Tryz.underlying98 _ b nn _ rfl hown ?_; intro w0 hrg0 hg0 hs0)
    | gi_in)
  go_frame
  gi_loopw [3] (fun _ wr => ∃ (left : Lit → Bool) (cnt : Nat) (ss : List Int), wr.ranges Tryz.prog 3 R b W.heap.size nn D0 left cnt ∧ ss.length + cnt ≤ Maps.size D0 ∧ Came D0 left ss ∧ J ss wr)
    (fun _ wr => wr.rangeLeft b W.heap.size)
  case atStart =>
    exact ⟨_, _, [], hrg0, by simp, Came.start D0, hJ [] W w0 none h0 hg0 (fun r e => by cases e)⟩
  case round =>
    obtain ⟨left, cnt, ss, hrg, hcs, hC, hJs⟩ := hrel
    gi_wp2_with (first
      | (gi_at_next; refine wpListIn_next_ranges _ rfl _ rfl 3 (int_keyed Tryz.underlying3) R (Value.int .i64) id (fun key kl hk => by obtain ⟨x, hx, _⟩ := Maps.keyOf_int_inv Tryz.underlying3 hk; exact ⟨x, hx⟩) (fun v _ _ => ⟨v, rfl⟩) b W.heap.size nn _ _ _ rfl hrg ?_ ?_)
      | gi_in)
    · intro hc0 hl0
      gi_wp2
      go_end0
      exact ⟨⟨_, rfl⟩, .inl ⟨ss, ⟨hC.1, fun x => by rw [hC.2 x, hl0]; simp⟩, hJs⟩⟩
    · intro x c kl yd yp w2 cnt2 hkey hlk hv hat hrg2 hlt hg2 hs2 hen
      obtain ⟨x', ex, rfl, _⟩ := Maps.keyOf_int_inv Tryz.underlying3 hkey
      obtain rfl : x = x' := by cases ex; rfl
      have hJ2 : J ss w2 := hJ ss wr w2 (some W.heap.size) hJs hg2 (fun r e => by cases e; exact ⟨Nat.le_refl _, hrg.iter_walk⟩)
      obtain ⟨fn, tmps, assign, body, hy, hR⟩ := hY ss x w2 hJ2 (by omega)
      clear hs2
      gi_wp2
      refine hR.mono ?_
      have hC2 := hC.step hlk hat
      rintro e W3 (⟨rfl, hJ3, hk3⟩ | ⟨rfl, hJx3⟩)
      · gi_wp2
        have hrg3 := hrg2.of_walks hk3
        go_roundw
        case rel => exact ⟨_, cnt2, ss ++ [x], hrg3, by simp; omega, hC2, hJ3⟩
        case measure => rw [hrg3.left_eq, hrg.left_eq]; exact hlt
      · gi_wp2
        refine bodyPost_ret (results_none rfl _ _ _) rfl ?_
        exact ⟨⟨_, rfl⟩, .inr ⟨ss ++ [x], hJx3⟩⟩

theorem Tryz.keys_stops {H : Type} (n : Nat) (hn : 1 ≤ n) (Bm b nn : Nat) (D0 : DataW H) {R : Value → Option (DataW H × List MemPlace)} (w : World) (hBm : Bm < w.heap.size)
    (hm : w.cell? ⟨Bm, 0, none⟩ = some (.map (some b))) (hown : w.ownsMap Tryz.prog 3 R b nn D0) :
    SeqStops Fence.wide n Tryz.prog 151 #[.pointer (some ⟨Bm, 0, none⟩)] (Value.int .i64) (fun ss => ss.Nodup ∧ ∀ x, x ∈ ss ↔ has D0 (.int .i64 x) = true) (fun _ => True) (Maps.size D0) w := fun l J Jx W hW hJ hJx hY h0 => by
  have hown' : W.ownsMap Tryz.prog 3 R b nn D0 := by
    have hbl := hown.lt
    obtain ⟨es, clock, hb, Ft, hs, hD⟩ := hown
    exact ⟨es, clock, (hW.block b hbl).trans hb, Ft, hs, hD⟩
  refine (Tryz.keys1S n hn l Bm b nn D0 J Jx hY W hJ ((hW.cell (p := ⟨Bm, 0, none⟩) hBm).trans hm) hown' h0).mono fun e W' ⟨h1, h2⟩ => ⟨h1, ?_⟩
  rcases h2 with h2 | ⟨pre, h2⟩
  · exact .inl h2
  · exact .inr ⟨pre, trivial, h2⟩
end Go.Proofs.YtdamnoleoakehaaGreatDoor

namespace Go.Proofs.YtdamnoleoakehaaGreatDoor
open Go.Proofs
open Go.RowKit Go.Maps Go.Sort Go.Shelf
attribute [local go_sem] Oper.semAt_some

theorem Tryz.info3p : (Tryz.prog.info? 3).map (fun i => (i.zero, i.size, i.bytes)) = some (some (.int .i64 0), 1, 8) := by kernel_rfl

set_option maxRecDepth 100000 in
set_option maxHeartbeats 2000000 in
theorem Tryz.appendSeqK (n : Nat) (hn : 2 ≤ n) (g : Nat) (lb : Array Value) (eg : ∀ args w, (callFunc g args).run Tryz.prog w = .ok (.enter g args) w) (S Sp : List Int → Prop) (N : Nat) (hN : N ≤ maxLen) (hNb : N * 8 ≤ 140737488355328) (w : World)
    (hseq : SeqStops Fence.wide (n - 1) Tryz.prog g lb (Value.int .i64) S Sp N w) :
    CallsIn Fence.wide n Tryz.prog 198 #[.slice none 0 0, .func (.func g) #[] lb] w fun e W' => ∃ (v : Value) (ss : List Int), e = .returned v ∧ S ss ∧ W'.ownsRow w.heap.size 3 1 v ss.length (ss.map (Value.int .i64)) ∧ (v = .slice none 0 0 ↔ ss = []) ∧ Below w.heap.size w W' := by
  have h1 : 1 ≤ n := by omega
  obtain ⟨i0, hi, hz0, hz1, hz2⟩ := info_parts Tryz.info3p
  refine callsIn_of_wp_marks Tryz.func198 rfl trivial ?_ rfl
  simp only [Tryz.ntmps198, List.size_toArray, List.length_cons, List.length_nil, Nat.reduceAdd, Nat.reduceSub, Array.replicate_succ, Array.replicate_zero, List.push_toArray, List.append_toArray, List.nil_append, List.cons_append]
  gi_wp2
  have bO := Boxed.new w 39 (.slice none 0 0)
  have hB0 : Below w.heap.size w (w.alloc (.cells #[.slice none 0 0] 39)) := (Below.refl _ w).alloc (Nat.le_refl _) _
  refine wpIn_rangeFunc_ownG rfl h1 (gf := g) (lb := lb) rfl trivial eg
    (encs := fun x : Int => #[Value.int .i64 x]) (Kp := KeepsWalks) hseq walksK_t walksK_b hB0 (fun _ => rfl)
    (fun pre W => (∃ v, Boxed W w.heap.size 39 v ∧ W.ownsRow w.heap.size 3 1 v pre.length (pre.map (Value.int .i64)) ∧ (v = .slice none 0 0 ↔ pre = [])) ∧ Below w.heap.size w W)
    (fun _ _ _ => False)
    (OwnFrom.and (Own.from (holdsRow_own w.heap.size w.heap.size 39 3 1 (fun pre : List Int => pre.length) (fun pre => pre.map (Value.int .i64)) (fun pre v => v = .slice none 0 0 ↔ pre = [])) _) (ownFrom_below (Nat.le_refl _) (by simp)))
    (fun _ _ _ _ _ hs _ _ => hs)
    ⟨⟨_, bO, World.ownsRow_nil _ _ _ _, by simp⟩, hB0⟩
    (fun x => { tmps := #[.slice none 0 0, .func (.func g) #[] lb, .pointer (some ⟨w.heap.size, 0, none⟩), undef, .slice none 0 0, .int .i64 x, .func (.func g) #[] lb, .int .i64 x, undef, undef, undef, undef, undef], defers := [] }) ?assign ?body ?done ?stop
  case assign =>
    intro l x W K hK
    gi_wp2
    exact hK
  case body =>
    rintro l pre x W ⟨⟨v, hv, hrow, hnil⟩, hB⟩ hlt
    have hc := hv.cell
    gi_wp2_with (gi_at_builtin; refine wpListIn_append_own _ rfl _ _ 39 rfl w.heap.size 3 i0 (.int .i64 0) 1 8 Tryz.underlying39 hi hz0 hz1 hz2 rfl (by decide) _ _ _ rfl (hrow.alloc _) ⟨W.heap.size, 0, none⟩ 1 1 [.int .i64 x] rfl rfl (cell_one_new _ _ _) (by simp [Value.oneCell']) (by omega) (by omega) (by have := hB.size; simp; omega) ?_; intro v' w1 hown' hgrow _; obtain ⟨g', cap', rfl⟩ := ownsRow_succ hown'; obtain ⟨hv1, hv2, hr2, hk2, hb2⟩ := hv.appended (by decide) hrow hB.size (Nat.le_refl _) hown' hgrow; have hc1 := hv1.cell; have hf1 := hv1.frozen)
    exact ⟨hk2.from _, hk2.walks, ⟨_, hv2, by simpa using hr2, by simp⟩, hB.trans hb2⟩
  case done =>
    rintro D ys W hD hS ⟨⟨v, hv, hrow, hnil⟩, hB⟩ hK
    have hc := hv.cell
    gi_wp2
    refine ⟨by simp, .inl ⟨_, _, rfl, run_takeDeferred hK, ?_⟩⟩
    exact ⟨_, results_tmp rfl _ _ _, v, ys, rfl, hS, ownsRow_putObj hrow _ hK rfl, hnil, hB.trans (belowK_b (w := w) (Nat.le_refl _) W D _ _ (by simp at hD; omega) hK rfl rfl)⟩
  case stop =>
    rintro D c pre W _ _ h _
    exact h.elim

theorem Tryz.collectK (n : Nat) (hn : 3 ≤ n) (g : Nat) (lb : Array Value) (eg : ∀ args w, (callFunc g args).run Tryz.prog w = .ok (.enter g args) w) (S Sp : List Int → Prop) (N : Nat) (hN : N ≤ maxLen) (hNb : N * 8 ≤ 140737488355328) (w : World)
    (hseq : SeqStops Fence.wide (n - 1 - 1) Tryz.prog g lb (Value.int .i64) S Sp N w) :
    CallsIn Fence.wide n Tryz.prog 142 #[.func (.func g) #[] lb] w fun e W' => ∃ (v : Value) (ss : List Int), e = .returned v ∧ S ss ∧ W'.ownsRow w.heap.size 3 1 v ss.length (ss.map (Value.int .i64)) ∧ (v = .slice none 0 0 ↔ ss = []) ∧ Below w.heap.size w W' := by
  have h1 : 1 ≤ n := by omega
  have hc := Tryz.appendSeqK (n - 1) (by omega) g lb eg S Sp N hN hNb w hseq
  have hf : Fence.wide.fn 198 := trivial
  refine callsIn_of_wp Tryz.func142 rfl trivial ?_ rfl
  simp only [Tryz.ntmps142, List.size_toArray, List.length_cons, List.length_nil, Nat.reduceAdd, Nat.reduceSub, Array.replicate_succ, Array.replicate_zero, List.push_toArray, List.append_toArray, List.nil_append, List.cons_append]
  gi_wp2_with (gi_at_call 198; refine hc.mono ?_; rintro e w' ⟨v, ss, rfl, hS, hrow, hnil, hb⟩)
  go_ret
  exact ⟨v, ss, rfl, hS, hrow, hnil, hb⟩
end Go.Proofs.YtdamnoleoakehaaGreatDoor

namespace Go.Proofs.YtdamnoleoakehaaGreatDoor
open Go.Proofs
open Go.RowKit Go.Maps Go.Sort Go.Shelf
attribute [local go_sem] Oper.semAt_some

def CellsOf (n0 : Nat) (W : World) (p : Option Addr) (l : List Int) : Prop :=
  ∀ i t, l[i]? = some t → ∃ b o, p = some ⟨b, o, none⟩ ∧ b < n0 ∧ W.cell? ⟨b, o + i, none⟩ = some (.int .i64 t)
theorem CellsOf.below {n0 : Nat} {A B : World} {p : Option Addr} {l : List Int} (hB : Below n0 A B) (h : CellsOf n0 A p l) : CellsOf n0 B p l := fun i t ht => by
  obtain ⟨b, o, h1, h2, h3⟩ := h i t ht
  exact ⟨b, o, h1, h2, (hB.cell (p := ⟨b, o + i, none⟩) h2).trans h3⟩

set_option maxRecDepth 100000 in
set_option maxHeartbeats 1000000 in
theorem Tryz.values_stops (n : Nat) (hn : 1 ≤ n) (Bs n0 : Nat) (p : Option Addr) (cap : Nat) (l : List Int) (w : World) (hBs : Bs < w.heap.size) (hn0 : n0 ≤ w.heap.size) (hlen : l.length ≤ maxLen)
    (hs : w.cell? ⟨Bs, 0, none⟩ = some (.slice p l.length cap)) (hl : CellsOf n0 w p l) :
    SeqStopsK Fence.wide n Tryz.prog 144 #[.pointer (some ⟨Bs, 0, none⟩)] (fun t : Int => #[.int .i64 t]) (Below n0) (fun xs => xs = l) (fun _ => True) l.length w := by
  intro lp J Jx W hW hJ hJx hY h0
  have hs' : W.cell? ⟨Bs, 0, none⟩ = some (.slice p l.length cap) := (hW.cell (p := ⟨Bs, 0, none⟩) hBs).trans hs
  have hl' := hl.below (hW.mono hn0)
  have hlen' : l.length < 2 ^ 63 := by unfold maxLen at hlen; omega
  refine callsIn_of_wp Tryz.func144 rfl trivial ?_ rfl
  simp only [Tryz.ntmps144, List.size_toArray, List.length_cons, List.length_nil, Nat.reduceAdd, Nat.reduceSub, Array.replicate_succ, Array.replicate_zero, List.push_toArray, List.append_toArray, List.nil_append, List.cons_append]
  gi_wp2
  gi_loopw [7] (fun q wr => ∃ i : Nat, q = .int .i64 (i : Int) ∧ i ≤ l.length ∧ J (l.take i) wr ∧ Below n0 W wr) (fun q _ => l.length - (match q with | .int _ i => i.toNat | _ => 0))
  case atStart => exact ⟨0, rfl, Nat.zero_le _, h0, Below.refl _ _⟩
  case round =>
    obtain ⟨i, rfl, hi, hJi, hBi⟩ := hrel
    by_cases hlt : i < l.length
    · obtain ⟨t, ht⟩ : ∃ t, l[i]? = some t := ⟨_, List.getElem?_eq_getElem hlt⟩
      obtain ⟨b, o, rfl, hb, c1⟩ := hl'.below hBi i t ht
      have htk : l.take i ++ [t] = l.take (i + 1) := by rw [List.take_add_one, ht]; rfl
      obtain ⟨fn, tmps, assign, body, hy, hR⟩ := hY (l.take i) t _ hJi (by rw [List.length_take]; omega)
      have hw : IntKind.i64.wrap ((i : Int) + 1) = ((i + 1 : Nat) : Int) := by rw [IntKind.wrap_i64]; omega
      gi_wp2
      refine hR.mono ?_
      rintro e W3 (⟨rfl, hJ3, hk3⟩ | ⟨rfl, hJx3⟩)
      · gi_wp2
        go_roundw
        case rel => exact ⟨i + 1, by first | rw [hw] | rfl, by omega, by rw [← htk]; exact hJ3, hBi.trans hk3⟩
        case measure =>
          simp
          omega
      · gi_wp2
        refine bodyPost_ret (results_none rfl _ _ _) rfl ?_
        exact ⟨⟨_, rfl⟩, .inr ⟨_, trivial, hJx3⟩⟩
    · obtain rfl : i = l.length := by omega
      rw [List.take_length] at hJi
      gi_wp2
      go_end0
      exact ⟨⟨_, rfl⟩, .inl ⟨l, rfl, hJi⟩⟩

theorem Tryz.info3 : (Tryz.prog.info? 3).map (fun i => (i.zero, i.size, i.bytes)) = some (some (.int .i64 0), 1, 8) := by kernel_rfl

set_option maxRecDepth 100000 in
set_option maxHeartbeats 2000000 in
theorem Tryz.appendSeq (n : Nat) (hn : 2 ≤ n) (g : Nat) (lb : Array Value) (eg : ∀ args w, (callFunc g args).run Tryz.prog w = .ok (.enter g args) w) (l : List Int) (hN : l.length ≤ maxLen) (hNb : l.length * 8 ≤ 140737488355328) (n0 : Nat) (w : World) (hn0 : n0 ≤ w.heap.size)
    (hseq : SeqStopsK Fence.wide (n - 1) Tryz.prog g lb (fun t : Int => #[.int .i64 t]) (Below n0) (fun xs => xs = l) (fun _ => True) l.length w) :
    CallsIn Fence.wide n Tryz.prog 198 #[.slice none 0 0, .func (.func g) #[] lb] w fun e W' => ∃ (v : Value), e = .returned v ∧ W'.ownsRow w.heap.size 3 1 v l.length (l.map (Value.int .i64)) ∧ (v = .slice none 0 0 ↔ l = []) ∧ Below w.heap.size w W' := by
  have h1 : 1 ≤ n := by omega
  obtain ⟨i0, hi, hz0, hz1, hz2⟩ := info_parts Tryz.info3
  refine callsIn_of_wp_marks Tryz.func198 rfl trivial ?_ rfl
  simp only [Tryz.ntmps198, List.size_toArray, List.length_cons, List.length_nil, Nat.reduceAdd, Nat.reduceSub, Array.replicate_succ, Array.replicate_zero, List.push_toArray, List.append_toArray, List.nil_append, List.cons_append]
  gi_wp2
  have bO := Boxed.new w 39 (.slice none 0 0)
  have hB0 : Below w.heap.size w (w.alloc (.cells #[.slice none 0 0] 39)) := (Below.refl _ w).alloc (Nat.le_refl _) _
  refine wpIn_rangeFunc_ownH rfl h1 (gf := g) (lb := lb) rfl trivial eg
    hseq belowK_t (belowK_b (by simp only [World.size_alloc]; omega)) hB0 (fun _ => rfl)
    (fun pre W => (∃ v, Boxed W w.heap.size 39 v ∧ W.ownsRow w.heap.size 3 1 v pre.length (pre.map (Value.int .i64)) ∧ (v = .slice none 0 0 ↔ pre = [])) ∧ Below w.heap.size w W)
    (fun _ _ _ => False)
    (OwnFrom.and (Own.from (holdsRow_own w.heap.size w.heap.size 39 3 1 (fun pre : List Int => pre.length) (fun pre => pre.map (Value.int .i64)) (fun pre v => v = .slice none 0 0 ↔ pre = [])) _) (ownFrom_below (Nat.le_refl _) (by simp)))
    (fun _ _ _ _ _ hs _ _ => hs)
    ⟨⟨_, bO, World.ownsRow_nil _ _ _ _, by simp⟩, hB0⟩
    (fun x a' W => a' = { tmps := #[.slice none 0 0, .func (.func g) #[] lb, .pointer (some ⟨w.heap.size, 0, none⟩), undef, .slice none 0 0, .int .i64 x, .func (.func g) #[] lb, .int .i64 x, undef, undef, undef, undef, undef], defers := [] })
    (fun x a' s X Y row hs hg hr => hs)
    ?assign ?body ?done ?stop
  case assign =>
    rintro lp pre x W K ⟨⟨v, hv, hrow, hnil⟩, hB⟩ hK
    gi_wp2
    exact hK _ _ ((KeepsOthers.refl _).from _) (Below.refl _ W) ⟨⟨v, hv, hrow, hnil⟩, hB⟩ rfl
  case body =>
    rintro lp pre x a' W hlp hr ⟨⟨v, hv, hrow, hnil⟩, hB⟩ rfl hlt
    have hc := hv.cell
    gi_wp2_with (gi_at_builtin; refine wpListIn_append_own _ rfl _ _ 39 rfl w.heap.size 3 i0 (.int .i64 0) 1 8 Tryz.underlying39 hi hz0 hz1 hz2 rfl (by decide) _ _ _ rfl (hrow.alloc _) ⟨W.heap.size, 0, none⟩ 1 1 [.int .i64 x] rfl rfl (cell_one_new _ _ _) (by simp [Value.oneCell']) (by omega) (by omega) (by have := hB.size; simp; omega) ?_; intro v' w1 hown' hgrow _; obtain ⟨g', cap', rfl⟩ := ownsRow_succ hown'; obtain ⟨hv1, hv2, hr2, hk2, hb2⟩ := hv.appended (by decide) hrow hB.size (Nat.le_refl _) hown' hgrow; have hc1 := hv1.cell; have hf1 := hv1.frozen)
    exact ⟨hk2.from _, hb2.mono hn0, ⟨_, hv2, by simpa using hr2, by simp⟩, hB.trans hb2⟩
  case done =>
    rintro D ys W hD rfl ⟨⟨v, hv, hrow, hnil⟩, hB⟩ hK
    have hc := hv.cell
    gi_wp2
    refine ⟨by simp, .inl ⟨_, _, rfl, run_takeDeferred hK, ?_⟩⟩
    exact ⟨_, results_tmp rfl _ _ _, v, rfl, ownsRow_putObj hrow _ hK rfl, hnil, hB.trans (belowK_b (w := w) (Nat.le_refl _) W D _ _ (by simp at hD; omega) hK rfl rfl)⟩
  case stop =>
    rintro D c pre W _ _ h _
    exact h.elim

theorem Tryz.collect (n : Nat) (hn : 3 ≤ n) (g : Nat) (lb : Array Value) (eg : ∀ args w, (callFunc g args).run Tryz.prog w = .ok (.enter g args) w) (l : List Int) (hN : l.length ≤ maxLen) (hNb : l.length * 8 ≤ 140737488355328) (n0 : Nat) (w : World) (hn0 : n0 ≤ w.heap.size)
    (hseq : SeqStopsK Fence.wide (n - 1 - 1) Tryz.prog g lb (fun t : Int => #[.int .i64 t]) (Below n0) (fun xs => xs = l) (fun _ => True) l.length w) :
    CallsIn Fence.wide n Tryz.prog 142 #[.func (.func g) #[] lb] w fun e W' => ∃ (v : Value), e = .returned v ∧ W'.ownsRow w.heap.size 3 1 v l.length (l.map (Value.int .i64)) ∧ (v = .slice none 0 0 ↔ l = []) ∧ Below w.heap.size w W' := by
  have h1 : 1 ≤ n := by omega
  have hc := Tryz.appendSeq (n - 1) (by omega) g lb eg l hN hNb n0 w hn0 hseq
  have hf : Fence.wide.fn 198 := trivial
  refine callsIn_of_wp Tryz.func142 rfl trivial ?_ rfl
  simp only [Tryz.ntmps142, List.size_toArray, List.length_cons, List.length_nil, Nat.reduceAdd, Nat.reduceSub, Array.replicate_succ, Array.replicate_zero, List.push_toArray, List.append_toArray, List.nil_append, List.cons_append]
  gi_wp2_with (gi_at_call 198; refine hc.mono ?_; rintro e w' ⟨v, rfl, hrow, hnil, hb⟩)
  go_ret
  exact ⟨v, rfl, hrow, hnil, hb⟩
end Go.Proofs.YtdamnoleoakehaaGreatDoor

set_option maxRecDepth 100000
namespace Go.ZR
open Go.Z Go.Proofs
end Go.ZR
namespace Go.Proofs.YtdamnoleoakehaaGreatDoor
open Go.Proofs Go.ZR
open Go.RowKit Go.Maps Go.Sort Go.Shelf Go.Z Go.WideElems
end Go.Proofs.YtdamnoleoakehaaGreatDoor

namespace Go.Proofs.YtdamnoleoakehaaGreatDoor
open Go.Proofs
open Go.RowKit Go.Maps Go.Sort Go.Shelf Go.Z Go.WideElems

def anyR {H : Type} (_ : Value) : Option (DataW H × List MemPlace) := some (.nil, [])
theorem key_i64 {x : Int} (h : -9223372036854775808 ≤ x ∧ x ≤ 9223372036854775807) : keyOf Tryz.prog 3 (.int .i64 x) = some (.int .i64 x) := by
  have hw : (Lit.int .i64 x).wf = true := by simp [Lit.wf]; exact h
  simp [keyOf, Tryz.underlying3, mapKey, hw]
theorem keys_of {es : Array MapEntry} {clock : Nat} {ks : List Int} (h : MapK es clock (.ints .i64 ks)) : es.toList.map (·.key) = ks.map (Value.int .i64) :=
  Col.keys_of (by rw [Array.length_toList]; exact h.size) fun i e he => by
    rw [Array.getElem?_toList] at he
    exact h.key i e he
theorem fit_i64 {H : Type} {es : Array MapEntry} {clock : Nat} {ks : List Int} (h : MapK es clock (.ints .i64 ks)) (hn : ks.Nodup) (hr : ∀ x ∈ ks, -9223372036854775808 ≤ x ∧ x ≤ 9223372036854775807) (hl : ks.length ≤ maxLen) : Fit Tryz.prog 3 (anyR (H := H)) es clock := by
  have hk := keys_of h
  refine ⟨by rw [h.size]; exact hl, ?_, fun x hx => ?_⟩
  · refine ⟨fun x hx => ?_, ?_, ?_⟩
    · obtain ⟨i, hi, he⟩ := List.getElem_of_mem hx
      exact h.born i x (by rw [← Array.getElem?_toList, List.getElem?_eq_getElem hi, he])
    · rw [List.nodup_iff_pairwise_ne, List.pairwise_map]
      rw [List.pairwise_iff_getElem]
      intro i j hi hj hij
      have := h.order i j es.toList[i] es.toList[j] hij (by rw [← Array.getElem?_toList, List.getElem?_eq_getElem hi]) (by rw [← Array.getElem?_toList, List.getElem?_eq_getElem hj])
      omega
    · rw [hk]
      exact List.Pairwise.map _ (fun a b hab e => hab (by cases e; rfl)) hn
  · have : x.key ∈ es.toList.map (·.key) := List.mem_map_of_mem hx
    rw [hk] at this
    obtain ⟨n, hn', he⟩ := List.mem_map.1 this
    have := rd_mk (R := anyR (H := H)) (val := x.val) (born := x.born) (key_i64 (hr n hn')) rfl
    exact ⟨_, by rw [he] at this; exact this⟩
theorem has_i64 {H : Type} {es : Array MapEntry} {ks : List Int} (hk : es.toList.map (·.key) = ks.map (Value.int .i64)) (hr : ∀ x ∈ ks, -9223372036854775808 ≤ x ∧ x ≤ 9223372036854775807) (x : Int) :
    has (.map ((es.toList.map (rg Tryz.prog 3 (anyR (H := H)))).foldr DataW.insert [])) (.int .i64 x) = true ↔ x ∈ ks := by
  rw [has_eq, List.any_eq_true]
  constructor
  · rintro ⟨p, hp, hs⟩
    obtain ⟨e, he, rfl⟩ := List.mem_map.1 ((Go.WideShapes.sorted_perm _).mem_iff.1 hp)
    have hm : e.key ∈ es.toList.map (·.key) := List.mem_map_of_mem he
    rw [hk] at hm
    obtain ⟨n, hn', hen⟩ := List.mem_map.1 hm
    have := rd_mk (R := anyR (H := H)) (val := e.val) (born := e.born) (key_i64 (hr n hn')) rfl
    rw [hen] at this
    rw [rg_of this] at hs
    have : n = x := by simpa [Lit.sameKey] using hs
    exact this ▸ hn'
  · intro hx
    have : Value.int .i64 x ∈ es.toList.map (·.key) := by rw [hk]; exact List.mem_map_of_mem hx
    obtain ⟨e, he, hen⟩ := List.mem_map.1 this
    have hrd := rd_mk (R := anyR (H := H)) (val := e.val) (born := e.born) (key_i64 (hr x hx)) rfl
    rw [← hen] at hrd
    refine ⟨rg Tryz.prog 3 anyR e, (Go.WideShapes.sorted_perm _).mem_iff.2 (List.mem_map_of_mem he), ?_⟩
    rw [rg_of hrd]
    simp [Lit.sameKey]
end Go.Proofs.YtdamnoleoakehaaGreatDoor
namespace Go.ZR
open Go.Z Go.Proofs
end Go.ZR
namespace Go.Proofs.YtdamnoleoakehaaGreatDoor
open Go.Proofs Go.ZR
open Go.RowKit Go.Maps Go.Sort Go.Shelf Go.Z Go.WideElems
theorem one_of {ss : List Int} {p : Int} (h : ss.Nodup) (hm : ∀ x, x ∈ ss ↔ x ∈ [p]) : ss = [p] := by
  have hp := (List.perm_ext_iff_of_nodup h (by simp : ([p] : List Int).Nodup)).2 hm
  match ss, hp with
  | [x], hp => have : x = p := by simpa using (hm x).1 (by simp)
               rw [this]
  | [], hp => have := hp.length_eq; simp at this
  | _ :: _ :: _, hp => have := hp.length_eq; simp at this
end Go.Proofs.YtdamnoleoakehaaGreatDoor

namespace Go.Proofs.YtdamnoleoakehaaGreatDoor
open Go.Proofs
open Go.RowKit Go.Maps Go.Sort Go.Shelf Go.Z Go.WideElems

theorem key_u32 {x : Int} (h : 0 ≤ x ∧ x ≤ 4294967295) : keyOf Tryz.prog 34 (.int .u32 x) = some (.int .u32 x) := by
  have hw : (Lit.int .u32 x).wf = true := by simp [Lit.wf]; exact h
  simp [keyOf, Tryz.underlying34, mapKey, hw]
theorem keys_ofU {es : Array MapEntry} {clock : Nat} {ks : List Int} (h : MapK es clock (.ints .u32 ks)) : es.toList.map (·.key) = ks.map (Value.int .u32) :=
  Col.keys_of (by rw [Array.length_toList]; exact h.size) fun i e he => by
    rw [Array.getElem?_toList] at he
    exact h.key i e he
theorem fit_u32 {H : Type} {es : Array MapEntry} {clock : Nat} {ks : List Int} (h : MapK es clock (.ints .u32 ks)) (hn : ks.Nodup) (hr : ∀ x ∈ ks, 0 ≤ x ∧ x ≤ 4294967295) (hl : ks.length ≤ maxLen) : Fit Tryz.prog 34 (anyR (H := H)) es clock := by
  have hk := keys_ofU h
  refine ⟨by rw [h.size]; exact hl, ?_, fun x hx => ?_⟩
  · refine ⟨fun x hx => ?_, ?_, ?_⟩
    · obtain ⟨i, hi, he⟩ := List.getElem_of_mem hx
      exact h.born i x (by rw [← Array.getElem?_toList, List.getElem?_eq_getElem hi, he])
    · rw [List.nodup_iff_pairwise_ne, List.pairwise_map]
      rw [List.pairwise_iff_getElem]
      intro i j hi hj hij
      have := h.order i j es.toList[i] es.toList[j] hij (by rw [← Array.getElem?_toList, List.getElem?_eq_getElem hi]) (by rw [← Array.getElem?_toList, List.getElem?_eq_getElem hj])
      omega
    · rw [hk]
      exact List.Pairwise.map _ (fun a b hab e => hab (by cases e; rfl)) hn
  · have : x.key ∈ es.toList.map (·.key) := List.mem_map_of_mem hx
    rw [hk] at this
    obtain ⟨n, hn', he⟩ := List.mem_map.1 this
    have := rd_mk (R := anyR (H := H)) (val := x.val) (born := x.born) (key_u32 (hr n hn')) rfl
    exact ⟨_, by rw [he] at this; exact this⟩
theorem has_u32 {H : Type} {es : Array MapEntry} {ks : List Int} (hk : es.toList.map (·.key) = ks.map (Value.int .u32)) (hr : ∀ x ∈ ks, 0 ≤ x ∧ x ≤ 4294967295) (x : Int) :
    has (.map ((es.toList.map (rg Tryz.prog 34 (anyR (H := H)))).foldr DataW.insert [])) (.int .u32 x) = true ↔ x ∈ ks := by
  rw [has_eq, List.any_eq_true]
  constructor
  · rintro ⟨p, hp, hs⟩
    obtain ⟨e, he, rfl⟩ := List.mem_map.1 ((Go.WideShapes.sorted_perm _).mem_iff.1 hp)
    have hm : e.key ∈ es.toList.map (·.key) := List.mem_map_of_mem he
    rw [hk] at hm
    obtain ⟨n, hn', hen⟩ := List.mem_map.1 hm
    have := rd_mk (R := anyR (H := H)) (val := e.val) (born := e.born) (key_u32 (hr n hn')) rfl
    rw [hen] at this
    rw [rg_of this] at hs
    have : n = x := by simpa [Lit.sameKey] using hs
    exact this ▸ hn'
  · intro hx
    have : Value.int .u32 x ∈ es.toList.map (·.key) := by rw [hk]; exact List.mem_map_of_mem hx
    obtain ⟨e, he, hen⟩ := List.mem_map.1 this
    have hrd := rd_mk (R := anyR (H := H)) (val := e.val) (born := e.born) (key_u32 (hr x hx)) rfl
    rw [← hen] at hrd
    refine ⟨rg Tryz.prog 34 anyR e, (Go.WideShapes.sorted_perm _).mem_iff.2 (List.mem_map_of_mem he), ?_⟩
    rw [rg_of hrd]
    simp [Lit.sameKey]
end Go.Proofs.YtdamnoleoakehaaGreatDoor
namespace Go.ZR
open Go.Z Go.Proofs
end Go.ZR
namespace Go.Proofs.YtdamnoleoakehaaGreatDoor
open Go.Proofs Go.ZR
open Go.RowKit Go.Maps Go.Sort Go.Shelf Go.Z Go.WideElems
end Go.Proofs.YtdamnoleoakehaaGreatDoor

namespace Go.Q
noncomputable section
open Go.RowKit Go.Proofs Go.Proofs.YtdamnoleoakehaaGreatDoor
open Go.Maps Go.Sort Go.Shelf Go.WideElems
open Go.Z hiding cond_false get resF
noncomputable section
section
variable {ρ : Rh} {θ : Tz} {s s' : St} {w : World}
theorem Sat.addAt {o : Ob} {n : Nat} (hs : Sat ρ θ s w) (hn : s.new o = .ok (n, s')) {g sz : Nat} (hg : w.heap.size ≤ g) {w1 : World} (hb : Below w.heap.size w w1)
    (ho : o.holds ρ (θ.add s.nx ⟨g, sz, []⟩) w1 ⟨g, sz, []⟩) :
    Gon ρ θ s w (θ.add s.nx ⟨g, sz, []⟩) s' w1 ∧ n = s.nx ∧ (θ.add s.nx ⟨g, sz, []⟩) s.nx = some ⟨g, sz, []⟩ := by
  obtain ⟨rfl, e1, e2, e4, e5⟩ := St.new_spec hn
  have hx := Tz.add_ext (hs.fresh _ (Nat.le_refl _)) ⟨g, sz, []⟩
  have old : ∀ m, m ≠ s.nx → (θ.add s.nx ⟨g, sz, []⟩) m = θ m := fun m hm => by simp [Tz.add, hm]
  have hfl := hs.fln
  have hfl2 := e2.1
  refine ⟨⟨⟨by omega, fun m hm => ?_, fun m o' hm => ?_, fun m k o' o'' L M h1 h2 h3 h4 h5 => ?_⟩, hx, by omega, fun m hm => old m (by omega), e2.1, e2.2, fun m hm => e5 m (by omega), ⟨hb.os, hb.tape, hb.output⟩, hb.size, fun b hb1 _ => hb.block b hb1, fun m o' L h0 h1 h2 => ?_⟩, rfl, Tz.add_self _ _ _⟩
  · rw [old m (by omega)]
    exact hs.fresh m (by omega)
  · by_cases h : m = s.nx
    · subst h
      rw [e4] at hm; cases hm
      exact ⟨_, Tz.add_self _ _ _, ho⟩
    · rw [e5 m h] at hm
      obtain ⟨L, h1, h2⟩ := hs.res m _ hm
      exact ⟨L, hx _ _ h1, Ob.holds_mono hx (hb.block _ (Ob.holds_lt h2)) h2⟩
  · by_cases hm : m = s.nx <;> by_cases hk : k = s.nx
    · rw [hm, hk]
    · subst hm
      rw [Tz.add_self] at h3; cases h3
      rw [old k hk] at h4; rw [e5 k hk] at h2
      have := hs.lt h2 h4
      simp only at h5; omega
    · subst hk
      rw [Tz.add_self] at h4; cases h4
      rw [old m hm] at h3; rw [e5 m hm] at h1
      have := hs.lt h1 h3
      simp only at h5; omega
    · rw [old m hm] at h3; rw [old k hk] at h4; rw [e5 m hm] at h1; rw [e5 k hk] at h2
      exact hs.inj m k _ _ _ _ h1 h2 h3 h4 h5
  · by_cases hm : m = s.nx
    · subst hm
      rw [Tz.add_self] at h2; cases h2
      exact .inl hg
    · rw [e5 m hm] at h1; rw [old m hm] at h2
      exact .inr ⟨m, _, _, h0, h1, h2, rfl⟩

theorem row_new (hs : Sat ρ θ s w) {T : Nat} {cs : List Cl} {k : IntKind} {xs : List Int} {len : Lin} (hc : CW ρ θ cs (xs.map (Value.int k))) (hlen : len.ev ρ.a = xs.length) (hne : xs ≠ []) {l : List (DV × St)} (h : newOb s (.cells T cs false) (fun n => .l n 1 (lit 0) len none (lit 0)) = .ok l)
    {w1 : World} (hb : Below w.heap.size w w1) {v : Value} (hrow : w1.ownsRow w.heap.size T 1 v xs.length (xs.map (Value.int k))) : ∃ d s' θ', (d, s') ∈ l ∧ Gon ρ θ s w θ' s' w1 ∧ W ρ θ' d v := by
  obtain ⟨n, s1, h1, rfl⟩ := newOb_ok h
  rcases hrow.2 with ⟨_, hz⟩ | ⟨g, cap, cur, rfl, hbase, hgb, r1, r2, r3, r4⟩
  · exact absurd (List.length_eq_zero_iff.1 hz) hne
  · rw [Nat.mul_one] at r3 r4
    have hpos : 0 < xs.length := List.length_pos_iff.2 hne
    obtain ⟨g1, g2, g3⟩ := hs.addAt h1 (g := g) (sz := cap) hbase hb ⟨xs.map (Value.int k), cur.toList.drop xs.length, (0, 0), by
        show w1.heap[g]? = _
        rw [← r4, List.take_append_drop]; simpa using hgb, .inl rfl, CW_mono (Tz.add_ext (hs.fresh _ (Nat.le_refl _)) _) hc, by
        rw [← r4, List.take_append_drop, Array.length_toList]; exact r3, fun h => by cases h⟩
    subst g2
    refine ⟨_, s1, _, .head _, g1, ?_⟩
    simp only [W]
    refine ⟨_, g3, Nat.one_pos, by rw [ev_lit]; exact Int.le_refl _, by rw [hlen]; omega, by rw [ev_lit]; exact Int.le_refl _, cap, by simp [ev_lit], by rw [hlen]; simpa using r1, ?_⟩
    rw [hlen, ev_lit]
    simp
end

def keysH (kk : IntKind) (lo hi : Int) (T g : Nat) (args : List DV) (s : St) : RS := match args with
  | [.f (.func g') [] [.p n o]] => cond (Nat.beq g' g && o.eqb (lit 0)) (match rowAt s n with
    | some (_, .v (.m m) :: _, _) => match mapAt s m with
      | some ([], _) => one (.c (.slice none 0 0)) s
      | some ([(.n k x, _)], _) => cond (Nat.beq (kIx k) (kIx kk) && (x.isLit && (intLe lo x.c && intLe x.c hi))) (newOb s (.cells T [.v (.n kk x)] false) fun n => .l n 1 (lit 0) (lit 1) none (lit 0)) (fail "keys" [m])
      | _ => fail "keys" [m]
    | _ => fail "keys" [n]) (fail "keys" [g'])
  | _ => fail "keys" []
section
variable {ρ : Rh} {θ : Tz} {s : St} {w : World}
theorem few_keys (hs : Sat ρ θ s w) {m ver : Nat} {es : List (DV × DV)} (hm : s.get m = some (.map es ver)) {kk : IntKind} {ks : List Int} (hks : ∀ V : List MapEntry, EW ρ θ es V → V.map (·.key) = ks.map (Value.int kk)) (h1 : ks.length ≤ 1) {v : Value} (hv : W ρ θ (.m m) v) :
    ∃ (b : Nat) (ms : Array MapEntry) (clock : Nat), v = .map (some b) ∧ w.heap[b]? = some (.map ms clock) ∧ MapK ms clock (.ints kk ks) := by
  simp only [W] at hv
  obtain ⟨L, hL, rfl⟩ := hv
  obtain ⟨L', hL', V, hV, hb, ms, h2, h3, h4, h5, h6⟩ := hs.res m _ hm
  obtain rfl := Option.some.inj (hL.symm.trans hL')
  have hk := hks V.ms h4
  have hkm : (ms.map (·.key)).Perm (ks.map (Value.int kk)) := by rw [← hk]; exact h3.map _
  have hlen : ms.length = ks.length := by have := hkm.length_eq; simpa using this
  refine ⟨L.b, ms.toArray, V.sz, rfl, h2, ⟨by simp [hlen, Col.len], fun i e he => ?_, fun i e he => ?_, fun i j e e' hij he he' => ?_⟩⟩
  · simp only [List.getElem?_toArray] at he
    match ms, ks, hkm, hlen, h1 with
    | [x], [y], hkm, _, _ =>
      have : x.key = .int kk y := by simpa using hkm
      cases i with
      | zero => simp at he; subst he; simp [Col.get?, this]
      | succ i => simp at he
    | [], _, _, _, _ => simp at he
    | _ :: _ :: _, ks, _, hlen, h1 => simp at hlen; omega
    | [x], _ :: _ :: _, _, hlen, _ => simp at hlen
    | [x], [], _, hlen, _ => simp at hlen
  · simp only [List.getElem?_toArray] at he
    exact h6 e (h3.mem_iff.1 (List.mem_of_getElem? he))
  · simp only [List.getElem?_toArray] at he he'
    have := (List.getElem?_eq_some_iff.1 he').1
    omega
theorem ss_of {ss ks : List Int} (h1 : ks.length ≤ 1) (h : ss.Nodup) (hm : ∀ x, x ∈ ss ↔ x ∈ ks) : ss = ks := by
  match ks, h1, hm with
  | [], _, hm => match ss, hm with
    | [], _ => rfl
    | x :: _, hm => exact absurd ((hm x).1 (.head _)) (by simp)
  | [p], _, hm => exact one_of h hm
theorem boxed (hs : Sat ρ θ s w) {n T : Nat} {o : Lin} {x : DV} {cs : List Cl} {ex : Bool} (ho : o.eqb (lit 0) = true) (hr : rowAt s n = some (T, .v x :: cs, ex)) {v : Value} (hv : W ρ θ (.p n o) v) :
    ∃ (B : Nat) (u : Value), v = .pointer (some ⟨B, 0, none⟩) ∧ B < w.heap.size ∧ w.cell? ⟨B, 0, none⟩ = some u ∧ W ρ θ x u := by
  rw [Lin.eqb_eq ho] at hv
  simp only [W, ev_lit] at hv
  obtain ⟨L, hL, _, rfl⟩ := hv
  obtain ⟨L', hL', vs, sp, fz, h1, _, h3, _⟩ := hs.res n _ (rowAt_some hr)
  obtain rfl := Option.some.inj (hL.symm.trans hL')
  obtain ⟨u, us, rfl, hu, _, _⟩ := h3
  exact ⟨L.b, u, rfl, (Array.getElem?_eq_some_iff.1 h1).1, by rw [cell_row h1]; rfl, hu⟩
theorem keysH_ok (hs : Sat ρ θ s w) {kk : IntKind} {lo hi : Int} {T g f : Nat} {args : List DV} {l : List (DV × St)} {us : List Value} (hv : WL ρ θ args us) (h : keysH kk lo hi T g args s = .ok l)
    (hen : EntersOk Tryz.prog f)
    (hcol : ∀ (Bm b : Nat) (ms : Array MapEntry) (clock : Nat) (ks : List Int), ks.length ≤ 1 → (∀ x ∈ ks, lo ≤ x ∧ x ≤ hi) → Bm < w.heap.size → w.cell? ⟨Bm, 0, none⟩ = some (.map (some b)) → w.heap[b]? = some (.map ms clock) → MapK ms clock (.ints kk ks) →
      Calls Tryz.prog f #[.func (.func g) #[] #[.pointer (some ⟨Bm, 0, none⟩)]] w fun e W' => ∃ (v : Value), e = .returned v ∧ W'.ownsRow w.heap.size T 1 v ks.length (ks.map (Value.int kk)) ∧ (v = .slice none 0 0 ↔ ks = []) ∧ Below w.heap.size w W') :
    EntersOk Tryz.prog f ∧ Calls Tryz.prog f us.toArray w fun e w' => ∃ d s' θ' v, e = .returned v ∧ (d, s') ∈ l ∧ Gon ρ θ s w θ' s' w' ∧ W ρ θ' d v := by
  unfold keysH at h
  split at h <;> try exact (fail_ok h).elim
  rename_i g' n o
  obtain ⟨hc, h'⟩ := cond_fail h
  clear h
  simp only [Bool.and_eq_true] at hc
  obtain rfl := nbeq hc.1
  split at h' <;> try exact (fail_ok h').elim
  rename_i T' m cs ex hr
  obtain ⟨u, us', rfl, hu, hus⟩ := WL_cons_left hv
  obtain rfl := WL_nil_left hus
  simp only [W] at hu
  obtain ⟨c1, c2, rfl, hc1, hc2⟩ := hu
  obtain rfl := WL_nil_left hc1
  obtain ⟨p, ps, rfl, hp, hps⟩ := WL_cons_left hc2
  obtain rfl := WL_nil_left hps
  obtain ⟨Bm, um, rfl, hB, hcell, hum⟩ := boxed hs hc.2 hr hp
  refine ⟨hen, ?_⟩
  split at h'
  · rename_i ver hmap
    cases h'
    obtain ⟨b, ms, clock, rfl, h1, h2⟩ := few_keys hs (mapAt_some hmap) (kk := kk) (ks := []) (fun V hV => by cases V with | nil => rfl | cons _ _ => exact hV.elim) (by simp) hum
    refine (hcol Bm b ms clock [] (by simp) (by simp) hB hcell h1 h2).mono fun e W' ⟨v, e1, _, e3, e4⟩ => ?_
    exact ⟨_, s, θ, v, e1, .head _, hs.below e4, by simp only [W]; exact e3.2 rfl⟩
  · rename_i k x y ver hmap
    obtain ⟨hq, h''⟩ := cond_fail h'
    simp only [Bool.and_eq_true] at hq
    obtain ⟨hk, hl, h5, h6⟩ := hq
    obtain rfl := kIx_inj hk
    have hev : x.ev ρ.a = x.c := Lin.ev_of_lit hl
    obtain ⟨b, ms, clock, rfl, h1, h2⟩ := few_keys hs (mapAt_some hmap) (kk := k) (ks := [x.ev ρ.a]) (fun V hV => by
      match V, hV with
      | [e], hV =>
        have h7 := hV.1
        simp only [W] at h7
        simp [h7]
      | [], hV => exact hV.elim
      | _ :: _ :: _, hV => exact hV.2.2.elim) (by simp) hum
    refine (hcol Bm b ms clock [x.ev ρ.a] (by simp) (fun z hz => by
      obtain rfl : z = x.ev ρ.a := by simpa using hz
      rw [hev]
      exact ⟨intLe_iff.1 h5, intLe_iff.1 h6⟩) hB hcell h1 h2).mono fun e W' ⟨v, e1, e2, _, e4⟩ => ?_
    obtain ⟨d, s', θ', g1, g2, g3⟩ := row_new hs (cs := [.v (.n k x)]) (k := k) (xs := [x.ev ρ.a]) (len := lit 1) ⟨_, [], rfl, by simp only [W], rfl, rfl⟩ (by rw [ev_lit]; rfl) (by simp) h'' e4 e2
    exact ⟨d, s', θ', v, e1, g1, g2, g3⟩
  · exact (fail_ok h').elim
end
theorem hook142k {ρ : Rh} {θ : Tz} {s : St} {w : World} (hs : Sat ρ θ s w) {args : List DV} {l : List (DV × St)} {us : List Value} (hv : WL ρ θ args us) (h : keysH .i64 (-9223372036854775808) 9223372036854775807 3 151 args s = .ok l) :
    EntersOk Tryz.prog 142 ∧ Calls Tryz.prog 142 us.toArray w fun e w' => ∃ d s' θ' v, e = .returned v ∧ (d, s') ∈ l ∧ Gon ρ θ s w θ' s' w' ∧ W ρ θ' d v := by
  refine keysH_ok hs hv h (entersOk Tryz.func142 (by kernel_rfl) (by kernel_rfl)) fun Bm b es clock ks h1 hr hB hcell hb hmap => ?_
  have hn : ks.Nodup := by match ks, h1 with
    | [], _ => simp
    | [_], _ => simp
  have hfit := fit_i64 (H := Unit) hmap hn hr (show ks.length ≤ maxLen by unfold maxLen; omega)
  have hown := World.ownsMap_of_fit hb hfit (R := anyR) (fun _ _ _ h => h)
  have hkeys := keys_of hmap
  have hhas := has_i64 (H := Unit) hkeys hr
  have hsz : Maps.size (DataW.map ((es.toList.map (rg Tryz.prog 3 (anyR (H := Unit)))).foldr DataW.insert [])) = ks.length := by
    rw [size_eq, (Go.WideShapes.sorted_perm _).length_eq, List.length_map, Array.length_toList, hmap.size]; rfl
  have hseq := Tryz.keys_stops 1 (by omega) Bm b es.size _ w hB hcell hown
  rw [hsz] at hseq
  refine ((callsIn_wide (n := 3)).1 (Tryz.collectK 3 (by omega) 151 #[.pointer (some ⟨Bm, 0, none⟩)] (enters_of Tryz.func151 (by kernel_rfl) rfl) _ _ ks.length (by unfold maxLen; omega) (by omega) w hseq)).mono ?_
  rintro e W' ⟨v, ss, rfl, hS, hrow, hnil, hbel⟩
  obtain rfl : ss = ks := ss_of h1 hS.1 fun x => (hS.2 x).trans (hhas x)
  exact ⟨v, rfl, hrow, hnil, hbel⟩
theorem hook213k {ρ : Rh} {θ : Tz} {s : St} {w : World} (hs : Sat ρ θ s w) {args : List DV} {l : List (DV × St)} {us : List Value} (hv : WL ρ θ args us) (h : keysH .u32 0 4294967295 34 215 args s = .ok l) :
    EntersOk Tryz.prog 213 ∧ Calls Tryz.prog 213 us.toArray w fun e w' => ∃ d s' θ' v, e = .returned v ∧ (d, s') ∈ l ∧ Gon ρ θ s w θ' s' w' ∧ W ρ θ' d v := by
  refine keysH_ok hs hv h (entersOk Tryz.func213 (by kernel_rfl) (by kernel_rfl)) fun Bm b es clock ks h1 hr hB hcell hb hmap => ?_
  have hn : ks.Nodup := by match ks, h1 with
    | [], _ => simp
    | [_], _ => simp
  have hfit := fit_u32 (H := Unit) hmap hn hr (show ks.length ≤ maxLen by unfold maxLen; omega)
  have hown := World.ownsMap_of_fit hb hfit (R := anyR) (fun _ _ _ h => h)
  have hkeys := keys_ofU hmap
  have hhas := has_u32 (H := Unit) hkeys hr
  have hsz : Maps.size (DataW.map ((es.toList.map (rg Tryz.prog 34 (anyR (H := Unit)))).foldr DataW.insert [])) = ks.length := by
    rw [size_eq, (Go.WideShapes.sorted_perm _).length_eq, List.length_map, Array.length_toList, hmap.size]; rfl
  have hseq := Tryz.keys_stopsU 1 (by omega) Bm b es.size _ w hB hcell hown
  rw [hsz] at hseq
  refine ((callsIn_wide (n := 3)).1 (Tryz.collectU 3 (by omega) 215 #[.pointer (some ⟨Bm, 0, none⟩)] (enters_of Tryz.func215 (by kernel_rfl) rfl) _ _ ks.length (by unfold maxLen; omega) (by omega) w hseq)).mono ?_
  rintro e W' ⟨v, ss, rfl, hS, hrow, hnil, hbel⟩
  obtain rfl : ss = ks := ss_of h1 hS.1 fun x => (hS.2 x).trans (hhas x)
  exact ⟨v, rfl, hrow, hnil, hbel⟩

def litsOf : List Cl → Option (List Int)
  | [] => some []
  | .v (.n .i64 x) :: l => cond x.isLit (match litsOf l with
    | some m => some (x.c :: m)
    | none => none) none
  | _ => none
def cellsI (l : List Int) : List Cl := l.map fun n => .v (.n .i64 (lit n))
theorem litsOf_vals {ρ : Rh} {θ : Tz} : ∀ {cs : List Cl} {l : List Int} {vs : List Value}, litsOf cs = some l → CW ρ θ cs vs → vs = l.map (Value.int .i64)
  | [], l, vs, h, hv => by cases h; exact hv
  | .v d :: cs, l, vs, h, hv => by
    obtain ⟨u, us, rfl, h1, _, h2⟩ := hv
    unfold litsOf at h
    split at h
    · rename_i he; cases he
    · rename_i x l' he
      cases he
      cases hx : x.isLit with
      | false => rw [hx] at h; cases h
      | true =>
        rw [hx] at h
        simp only [_root_.cond_true] at h
        split at h <;> cases h
        rename_i m hm
        simp only [W] at h1
        rw [h1, litsOf_vals hm h2, Lin.ev_of_lit hx]
        rfl
    · cases h
  | .b i :: cs, l, vs, h, _ => by cases h
theorem cellsI_cw {ρ : Rh} {θ : Tz} : ∀ l : List Int, CW ρ θ (cellsI l) (l.map (Value.int .i64))
  | [] => rfl
  | n :: l => ⟨_, _, rfl, by simp only [W, ev_lit], rfl, cellsI_cw l⟩
def valsH (Γ : Cx) (args : List DV) (s : St) : RS := match args with
  | [.f (.func g') [] [.p n o]] => cond (Nat.beq g' 144 && o.eqb (lit 0)) (match rowAt s n with
    | some (_, .v (.l m 1 o2 len _ _) :: _, _) => match midD Γ s m 1 o2 len with
      | some cs => match litsOf cs with
        | some [] => fail "values" [m]
        | some xs => cond (Nat.ble xs.length 1000 && intB len.c (Int.ofNat xs.length) && len.isLit) (newOb s (.cells 3 (cellsI xs) false) fun n => .l n 1 (lit 0) len none (lit 0)) (fail "values" [m])
        | none => fail "values" [m]
      | none => fail "values" [m]
    | _ => fail "values" [n]) (fail "values" [g'])
  | _ => fail "values" []
theorem hook142v {Γ : Cx} {ρ : Rh} {θ : Tz} {s : St} {w : World} (hΓ : CxOk Γ ρ) (hs : Sat ρ θ s w) {args : List DV} {l : List (DV × St)} {us : List Value} (hv : WL ρ θ args us) (h : valsH Γ args s = .ok l) :
    EntersOk Tryz.prog 142 ∧ Calls Tryz.prog 142 us.toArray w fun e w' => ∃ d s' θ' v, e = .returned v ∧ (d, s') ∈ l ∧ Gon ρ θ s w θ' s' w' ∧ W ρ θ' d v := by
  unfold valsH at h
  split at h <;> try exact (fail_ok h).elim
  rename_i g' n o
  obtain ⟨hc, h'⟩ := cond_fail h
  clear h
  simp only [Bool.and_eq_true] at hc
  obtain rfl := nbeq hc.1
  split at h' <;> try exact (fail_ok h').elim
  rename_i T' m o2 len cp q cs ex hr
  split at h' <;> try exact (fail_ok h').elim
  rename_i row hmid
  split at h' <;> try exact (fail_ok h').elim
  rename_i xs hne hlit
  obtain ⟨hq, h''⟩ := cond_fail h'
  clear h'
  simp only [Bool.and_eq_true] at hq
  obtain ⟨⟨h1000, hlc⟩, hll⟩ := hq
  have h1000 := nble h1000
  have hlen : len.ev ρ.a = xs.length := by rw [Lin.ev_of_lit hll, intB_eq hlc]; rfl
  obtain ⟨u, us', rfl, hu, hus⟩ := WL_cons_left hv
  obtain rfl := WL_nil_left hus
  simp only [W] at hu
  obtain ⟨c1, c2, rfl, hc1, hc2⟩ := hu
  obtain rfl := WL_nil_left hc1
  obtain ⟨p, ps, rfl, hp, hps⟩ := WL_cons_left hc2
  obtain rfl := WL_nil_left hps
  obtain ⟨Bm, um, rfl, hB, hcell, hum⟩ := boxed hs hc.2 hr hp
  simp only [W] at hum
  obtain ⟨L, hL, _, ho2, _, _, C, hC, hCl, rfl⟩ := hum
  obtain ⟨pre, ms, post, T, fz, hb, hms, hpre, hml⟩ := mid_sound hΓ hs.toR hL hmid
  have hvals := litsOf_vals hlit hms
  have hxs : xs ≠ [] := hne
  have hpos : 0 < xs.length := List.length_pos_iff.2 hxs
  rw [hlen] at hCl hcell
  have hC0 : C ≠ 0 := by simp at hCl; omega
  rw [if_neg hC0] at hcell
  have hLb : L.b < w.heap.size := (Array.getElem?_eq_some_iff.1 hb).1
  have hco : CellsOf w.heap.size w (some ⟨L.b, (o2.ev ρ.a).toNat, none⟩) xs := fun i t ht => by
    refine ⟨L.b, (o2.ev ρ.a).toNat, rfl, hLb, ?_⟩
    rw [cell_row hb]
    have hi := (List.getElem?_eq_some_iff.1 ht).1
    have e : (o2.ev ρ.a).toNat = pre.length := by omega
    rw [e, List.getElem?_append_right (by omega), Nat.add_sub_cancel_left, hvals, List.getElem?_append_left (by simpa using hi), List.getElem?_map, ht]
    rfl
  have hmlx : xs.length ≤ maxLen := by unfold maxLen; omega
  have hseq := Tryz.values_stops 1 (by omega) Bm w.heap.size _ C xs w hB (Nat.le_refl _) hmlx (by simpa using hcell) hco
  refine ⟨entersOk Tryz.func142 (by kernel_rfl) (by kernel_rfl), ?_⟩
  refine ((callsIn_wide (n := 3)).1 (Tryz.collect 3 (by omega) 144 #[.pointer (some ⟨Bm, 0, none⟩)] (enters_of Tryz.func144 (by kernel_rfl) rfl) xs hmlx (by omega) w.heap.size w (Nat.le_refl _) hseq)).mono ?_
  rintro e W' ⟨v, rfl, hrow, hnil, hbel⟩
  obtain ⟨d, s', θ', g1, g2, g3⟩ := row_new hs (cs := cellsI xs) (k := .i64) (xs := xs) (len := len) (cellsI_cw xs) hlen hxs h'' hbel hrow
  exact ⟨d, s', θ', v, rfl, g1, g2, g3⟩
end
end
end Go.Q

namespace Go.Q
noncomputable section
open Go.RowKit Go.Proofs
open Go.Z hiding cond_false get resF
noncomputable section

def drawOf : Code → Option (Array Oper)
  | .region _ ops true => some ops
  | .seq a b => match drawOf a with | some x => some x | none => drawOf b
  | _ => none
def strOf1 : Code → Option (Array Oper)
  | .region _ ops false => some ops
  | .seq a b => match strOf1 a with | some x => some x | none => strOf1 b
  | _ => none
noncomputable def ops106 : Array Oper := match Tryz.f106.body with | some c => (drawOf c).getD #[] | none => #[]
noncomputable def ops106a : Array Oper := match Tryz.f106.body with | some c => (strOf1 c).getD #[] | none => #[]
theorem body106 : Tryz.f106.body = some (.seq (.region 0 ops106a false) (.seq (.region 1 ops106 true) .ret)) := by rfl
theorem size106 : ops106.size = 19 := by rfl

section
variable (n : Nat) (o : Lin) (M : Nat)
def valF (c : Nat) : DV := match c with
  | 4 => .m M
  | 5 => .p n o
  | j => .p n (o.add (lit (Int.ofNat j)))
def tabF : List (Nat × Nat × Nat) := [(3, 0, 4), (4, 1, 5), (5, 2, 5), (6, 3, 0), (7, 5, 5), (8, 6, 5), (9, 7, 1), (10, 9, 5), (11, 10, 5), (12, 11, 2), (13, 13, 5), (14, 14, 5), (15, 15, 3), (16, 17, 4), (2, 18, 4)]
def envF (L : Array Bool) (t : Nat) : Option DV := if t = 0 then some (.p n o) else match tabF.find? (fun x => x.1 == t) with
  | some x => if L.getD x.2.1 false = true then some (valF n o M x.2.2) else none
  | none => none
def entF (j : Nat) (c : Int) : DV × DV := (.n .u8 (lit c), .p n (o.add (lit (Int.ofNat j))))
def onF (L : Array Bool) (k j : Nat) (c : Int) : List (DV × DV) := if L.getD k false = true then [entF n o j c] else []
def canF (L : Array Bool) : List (DV × DV) := onF n o L 4 0 128 ++ (onF n o L 8 1 64 ++ (onF n o L 12 2 32 ++ onF n o L 16 3 16))
end

theorem eqD_lit_ne (Γ : Cx) {a b : Int} (h : a ≠ b) : eqD Γ (lit a) (lit b) = some false := by
  unfold eqD
  have h1 : (lit a).eqb (lit b) = false := by
    unfold Lin.eqb lit
    cases hb : intB a b with
    | true => exact absurd (intB_eq hb) h
    | false => rfl
  have ht : ((lit a).sub (lit b)).t = [] := by simp [Lin.sub, lit, addT, mulT]
  have h2 : ((lit a).sub (lit b)).lo Γ = a - b := by simp [Lin.lo, Lin.sub, lit, addT, mulT, loT]
  have h3 : ((lit a).sub (lit b)).up Γ = a - b := by simp [Lin.up, Lin.sub, lit, addT, mulT, upT]
  unfold loGe upLe
  rw [h1, h2, h3, ht]
  simp only [_root_.cond_false]
  by_cases hlt : 1 ≤ a - b
  · rw [intLe_iff.2 hlt]; rfl
  · rw [intLe_false.2 (by omega : a - b < 1), intLe_iff.2 (by omega : a - b ≤ -1)]; rfl
theorem eqV_u8 (Γ : Cx) {P : Program} {kt : Nat} (hu : P.underlying kt = some (.int .u8)) (x y : Lin) : eqV Γ P eqDepth kt (.n .u8 x) (.n .u8 y) = eqD Γ x y := by
  simp only [eqDepth, eqV, hu, if_true]
theorem findD_none (Γ : Cx) {P : Program} {kt : Nat} (hu : P.underlying kt = some (.int .u8)) {c : Int} : ∀ {es : List (DV × DV)} {i : Nat}, (∀ x ∈ es, ∃ c', x.1 = .n .u8 (lit c') ∧ c' ≠ c) → findD Γ P kt (.n .u8 (lit c)) es i = some none
  | [], i, _ => rfl
  | (k, v) :: es, i, h => by
    obtain ⟨c', h1, h2⟩ := h _ (.head _)
    simp only at h1
    subst h1
    unfold findD
    rw [eqV_u8 Γ hu, eqD_lit_ne Γ (fun e => h2 e.symm)]
    exact findD_none Γ hu fun x hx => h x (.tail _ hx)
theorem put_some {α : Type} (t : Tr α) {k : Nat} (v : α) (h : k < 32768) : ∃ t', Tr.put 64 t k v = some t' := by
  refine ⟨⟨T5.put t.t k v⟩, ?_⟩
  show @Bool.rec (fun _ => Option (Tr α)) none (T5.nf (T5.put t.t k v)) (Nat.ble k 32767) = _
  rw [Nat.ble_eq_true_of_le (by omega), T5.nf_eq]

theorem u8T : Tryz.prog.underlying 5 = some (.int .u8) := Tryz.underlying5

section
variable {Γ : Cx} {ρ : Rh} {n : Nat} {o : Lin} {nx0 N : Nat} {θ : Tz} {w : World} {call : CallF}
structure FInv (ρ : Rh) (n : Nat) (o : Lin) (nx0 N : Nat) (θ : Tz) (w : World) (L : Array Bool) (a : Act) (w' : World) : Prop where
  size : L.size = 19
  ex : ∃ θ' st, Gon ρ θ (emptyS nx0) w θ' st w' ∧ EnvOk ρ θ' (envF n o (nx0 + 1) L) a ∧ SzOk N a ∧
    (L.getD 0 false = false → st = emptyS nx0 ∧ canF n o L = []) ∧ (L.getD 0 false = true → ∃ es ver, st.get (nx0 + 1) = some (.map es ver) ∧ es.Perm (canF n o L) ∧ st.fl = nx0)

theorem envF_set {M : Nat} {L : Array Bool} {k : Nat} (hk : k < L.size) {m : Nat} {d : DV} (h : envF n o M (L.setIfInBounds k true) m = some d) : envF n o M L m = some d ∨ ∃ x, tabF.find? (fun x => x.1 == m) = some x ∧ x.2.1 = k ∧ m ≠ 0 ∧ d = valF n o M x.2.2 := by
  unfold envF at h ⊢
  by_cases h0 : m = 0
  · rw [if_pos h0] at h ⊢; exact .inl h
  · rw [if_neg h0] at h ⊢
    cases hx : tabF.find? (fun x => x.1 == m) with
    | none => rw [hx] at h; exact .inl h
    | some x =>
      rw [hx] at h
      simp only at h ⊢
      split at h <;> cases h
      rename_i hl
      rcases (listed_set hk).1 hl with e | e
      · exact .inr ⟨x, rfl, e, h0, rfl⟩
      · left; rw [if_pos e]
theorem find_mem {m : Nat} {x : Nat × Nat × Nat} (h : tabF.find? (fun x => x.1 == m) = some x) : x ∈ tabF ∧ x.1 = m := ⟨List.mem_of_find?_eq_some h, by simpa using List.find?_some h⟩
theorem env_put {L : Array Bool} {a : Act} {k t c : Nat} {v : Value} (hsz : k < L.size) (he : EnvOk ρ θ (envF n o (nx0 + 1) L) a) (hu : ∀ x ∈ tabF, x.2.1 = k → x = (t, k, c)) (hf : ∀ x ∈ tabF, x.1 = t → x = (t, k, c)) (hun : L.getD k false = false) (ht0 : t ≠ 0) (hv : W ρ θ (valF n o (nx0 + 1) c) v) (hN : SzOk N a) (ht : t < N) :
    EnvOk ρ θ (envF n o (nx0 + 1) (L.setIfInBounds k true)) (a.put (some t) v) ∧ SzOk N (a.put (some t) v) := by
  refine ⟨fun m d hd => ?_, ⟨by simpa [Act.put] using hN.1, hN.2⟩⟩
  rcases envF_set hsz hd with h | ⟨x, h1, h2, _, rfl⟩
  · have hmt : t ≠ m := fun e => by
      subst e
      unfold envF at h
      rw [if_neg ht0] at h
      split at h
      · rename_i x hx
        obtain ⟨e1, e2⟩ := find_mem hx
        rw [hf x e1 e2] at h
        simp only [hun] at h
        cases h
      · cases h
    obtain ⟨u, h3, h4⟩ := he m d h
    exact ⟨u, by simp [Act.put, Array.getElem?_setIfInBounds_ne hmt, h3], h4⟩
  · obtain ⟨e1, e2⟩ := find_mem h1
    rw [hu x e1 h2] at e2 ⊢
    simp only at e2
    subst e2
    exact ⟨v, by simp [Act.put, hN.1, ht], hv⟩
theorem env_same {L : Array Bool} {a : Act} {k : Nat} (hsz : k < L.size) (he : EnvOk ρ θ (envF n o (nx0 + 1) L) a) (hu : ∀ x ∈ tabF, x.2.1 ≠ k) : EnvOk ρ θ (envF n o (nx0 + 1) (L.setIfInBounds k true)) a := by
  intro m d hd
  rcases envF_set hsz hd with h | ⟨x, h1, h2, _, _⟩
  · exact he m d h
  · exact absurd h2 (hu x (find_mem h1).1)
theorem can_same {L : Array Bool} {k : Nat} (hk : k ≠ 4 ∧ k ≠ 8 ∧ k ≠ 12 ∧ k ≠ 16) : canF n o (L.setIfInBounds k true) = canF n o L := by
  unfold canF onF
  rw [getD_set_ne false hk.1, getD_set_ne false hk.2.1, getD_set_ne false hk.2.2.1, getD_set_ne false hk.2.2.2]
theorem fields {k : Nat} {oj : Oper} (ho : ops106[k]? = some oj) {x : Op × Option Nat × Option (Nat × Bool)} (h : ops106[k]?.map (fun o => (o.op, o.dst, o.guard)) = some x) : oj.op = x.1 ∧ oj.dst = x.2.1 ∧ oj.guard = x.2.2 := by
  rw [ho] at h
  cases h
  exact ⟨rfl, rfl, rfl⟩
theorem preds {k : Nat} {L : Array Bool} (hk : k ∈ Region.ready .any ops106 L) {j : Nat} (h : j ∈ predsO ops106 k) : L.getD j false = true := by
  obtain ⟨_, oj, ho, h2⟩ := mem_ready.1 hk
  unfold predsO at h
  rw [ho] at h
  obtain ⟨e, he, rfl⟩ := List.mem_map.1 h
  obtain ⟨h3, h4⟩ := List.mem_filter.1 he
  exact h2 e (by simpa using h3) h4
theorem env_at {M : Nat} {L : Array Bool} {t k c : Nat} (hf : tabF.find? (fun x => x.1 == t) = some (t, k, c)) (ht : t ≠ 0) (hl : L.getD k false = true) : envF n o M L t = some (valF n o M c) := by
  unfold envF
  rw [if_neg ht, hf]
  simp only [hl, if_true]
theorem vstep (hΓ : CxOk Γ ρ) (hC : CallOk ρ Tryz.prog call) {L : Array Bool} {a : Act} {w' : World} {Q : Exit → Act → World → Prop} (I : FInv ρ n o nx0 N θ w L a w') {k : Nat} (hk : k ∈ Region.ready .any ops106 L) {op : Op} {t c : Nat}
    (hx : ops106[k]?.map (fun o => (o.op, o.dst, o.guard)) = some (op, some t, none)) (hu : ∀ x ∈ tabF, x.2.1 = k → x = (t, k, c)) (hf : ∀ x ∈ tabF, x.1 = t → x = (t, k, c)) (ht0 : t ≠ 0) (ht : t < N) (hk0 : k ≠ 0) (hki : k ≠ 4 ∧ k ≠ 8 ∧ k ≠ 12 ∧ k ≠ 16)
    (hstep : ∀ st, stepD Γ Tryz.prog call op (envF n o (nx0 + 1) L) st = .ok [(valF n o (nx0 + 1) c, st)]) : wpOp Tryz.prog ops106 Q k (FInv ρ n o nx0 N θ w (L.setIfInBounds k true)) a w' := by
  obtain ⟨oj, ho, _, hkn, hun⟩ := ready_op hk
  obtain ⟨e1, e2, e3⟩ := fields ho hx
  simp only at e1 e2 e3
  obtain ⟨θ', st, g, he, hN, h0, h1⟩ := I.ex
  have hks : k < L.size := by rw [I.size]; exact hkn
  unfold wpOp
  simp only [ho]
  rw [if_pos (by simp [Region.wanted, e3])]
  left
  refine stepD_sound (o := oj) hΓ hC g.sat he (by rw [e1]; exact hstep st) _ _ fun d s' θ2 v w2 hin g2 hv => ?_
  simp only [List.mem_singleton, Prod.mk.injEq] at hin
  obtain ⟨rfl, rfl⟩ := hin
  rw [e2]
  obtain ⟨q1, q2⟩ := env_put hks (he.mono g2.ext) hu hf hun ht0 hv hN ht
  refine ⟨by rw [Array.size_setIfInBounds]; exact I.size, θ2, s', g.trans g2, q1, q2, fun hl => ?_, fun hl => ?_⟩
  · rw [getD_set_ne false hk0] at hl
    rw [can_same hki]
    exact h0 hl
  · rw [getD_set_ne false hk0] at hl
    rw [can_same hki]
    exact h1 hl
theorem mid_perm {α : Type} (X Y : List α) (e : α) : (X ++ Y ++ [e]).Perm (X ++ ([e] ++ Y)) := by
  rw [List.append_assoc]
  exact List.Perm.append_left X List.perm_append_comm
theorem istep (hΓ : CxOk Γ ρ) (hC : CallOk ρ Tryz.prog call) (hnx : nx0 + 1 < 32768) {L : Array Bool} {a : Act} {w' : World} {Q : Exit → Act → World → Prop} (I : FInv ρ n o nx0 N θ w L a w') {k j t : Nat} {c : Int} (hk : k ∈ Region.ready .any ops106 L)
    (hx : ops106[k]?.map (fun o => (o.op, o.dst, o.guard)) = some (.insert 187 (.tmp 3) (.const (.int .u8 c)) (.tmp t), none, none)) (hk0 : k ≠ 0) (hu : ∀ x ∈ tabF, x.2.1 ≠ k)
    (h3 : envF n o (nx0 + 1) L 3 = some (.m (nx0 + 1))) (h6 : envF n o (nx0 + 1) L t = some (.p n (o.add (lit (Int.ofNat j))))) (hl0 : L.getD 0 false = true)
    (hne : ∀ x ∈ canF n o L, ∃ c', x.1 = .n .u8 (lit c') ∧ c' ≠ c) (hperm : (canF n o L ++ [entF n o j c]).Perm (canF n o (L.setIfInBounds k true))) : wpOp Tryz.prog ops106 Q k (FInv ρ n o nx0 N θ w (L.setIfInBounds k true)) a w' := by
  obtain ⟨oj, ho, _, hkn, hun⟩ := ready_op hk
  obtain ⟨e1, e2, e3⟩ := fields ho hx
  simp only at e1 e2 e3
  obtain ⟨θ', st, g, he, hN, h0, h1⟩ := I.ex
  obtain ⟨es, ver, hm, hp, hfl⟩ := h1 hl0
  have hks : k < L.size := by rw [I.size]; exact hkn
  obtain ⟨vt, hT⟩ : ∃ vt, Tryz.prog.underlying 187 = some (.map 5 vt) := ⟨_, Tryz.underlying187⟩
  have hma : mapAt st (nx0 + 1) = some (es, ver) := by unfold mapAt; rw [hm]
  obtain ⟨t', ht'⟩ := put_some st.h (k := nx0 + 1) (some (Ob.map (es ++ [entF n o j c]) st.nx)) hnx
  have hset : st.ver.2.set (nx0 + 1) (.map (es ++ [entF n o j c]) st.nx) = .ok { st.ver.2 with h := t' } := by
    unfold St.set
    have : Nat.ble st.ver.2.fl (nx0 + 1) = true := by
      show Nat.ble st.fl (nx0 + 1) = true
      rw [hfl]; exact Nat.ble_eq_true_of_le (Nat.le_succ _)
    rw [this]
    simp only [_root_.cond_true]
    rw [show st.ver.2.h = st.h from rfl, ht']
  have hloud : loudD Γ Tryz.prog call oj.op [.m (nx0 + 1), .n .u8 (lit c), .p n (o.add (lit (Int.ofNat j)))] st = .ok [(noD, { st.ver.2 with h := t' })] := by
    rw [e1]
    simp only [loudD, l3, mapUpdateD, hT, hma]
    have hko : keyOk Tryz.prog eqDepth 5 (.n .u8 (lit c)) = true := by simp only [eqDepth, keyOk, u8T]
    rw [hko, findD_none Γ u8T fun x hx => hne x (hp.mem_iff.1 hx)]
    simp only [_root_.cond_true, setMap, setOb]
    rw [show (es ++ [((DV.n .u8 (lit c)), (DV.p n (o.add (lit (Int.ofNat j)))))]) = es ++ [entF n o j c] from rfl, hset]
  have hres : resF (envF n o (nx0 + 1) L) oj.op.operands.toList = .ok [.m (nx0 + 1), .n .u8 (lit c), .p n (o.add (lit (Int.ofNat j)))] := by
    rw [e1]
    show resF _ [.tmp 3, .const (.int .u8 c), .tmp t] = _
    simp only [resF, getF, h3, h6]
    rfl
  have hstep : stepD Γ Tryz.prog call oj.op (envF n o (nx0 + 1) L) st = .ok [(noD, { st.ver.2 with h := t' })] := by
    rw [stepD_loud (by rw [e1]; simp) hres (by rw [e1]; rfl)]
    exact hloud
  unfold wpOp
  simp only [ho]
  rw [if_pos (by simp [Region.wanted, e3])]
  left
  refine stepD_sound (o := oj) hΓ hC g.sat he hstep _ _ fun d s' θ2 v w2 hin g2 hv => ?_
  simp only [List.mem_singleton, Prod.mk.injEq] at hin
  obtain ⟨rfl, rfl⟩ := hin
  rw [e2]
  refine ⟨by rw [Array.size_setIfInBounds]; exact I.size, θ2, _, g.trans g2, env_same hks (he.mono g2.ext) hu, hN, fun hl => ?_, fun _ => ?_⟩
  · rw [getD_set_ne false hk0, hl0] at hl; cases hl
  · obtain ⟨_, _, _, s1, _⟩ := St.set_spec hset
    exact ⟨_, _, s1, (hp.append_right _).trans hperm, hfl⟩
end
end
end
end Go.Q

