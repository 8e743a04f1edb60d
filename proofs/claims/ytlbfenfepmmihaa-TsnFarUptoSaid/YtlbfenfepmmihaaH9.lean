/- Part 9 of what the closing text rests on. -/
import Derived.Test.YtlbfenfepmmihaaH8
import Derived.RangeFuncBox
/- What an iterator of numbers of 32 bits gives, collected. -/
namespace Go.Proofs.Ytlbfenfepmmihaa
open Go.Proofs
open Go.RowKit Go.Maps Go.Sort Go.Shelf
attribute [local go_sem] Oper.semAt_some

theorem Try.info22p : (Try.prog.info? 22).map (fun i => (i.zero, i.size, i.bytes)) = some (some (.int .u32 0), 1, 4) := by kernel_rfl

set_option maxRecDepth 100000 in
set_option maxHeartbeats 2000000 in
theorem Try.appendSeq (n : Nat) (hn : 2 ≤ n) (g : Nat) (lb : Array Value) (eg : ∀ args w, (callFunc g args).run Try.prog w = .ok (.enter g args) w) (S Sp : List Int → Prop) (N : Nat) (hN : N ≤ maxLen) (hNb : N * 4 ≤ 140737488355328) (w : World)
    (hseq : SeqStops Fence.wide (n - 1) Try.prog g lb (Value.int .u32) S Sp N w) :
    CallsIn Fence.wide n Try.prog 153 #[.slice none 0 0, .func (.func g) #[] lb] w fun e W' => ∃ (v : Value) (ss : List Int), e = .returned v ∧ S ss ∧ W'.ownsRow w.heap.size 22 1 v ss.length (ss.map (Value.int .u32)) ∧ (v = .slice none 0 0 ↔ ss = []) ∧ Below w.heap.size w W' := by
  have h1 : 1 ≤ n := by omega
  obtain ⟨i0, hi, hz0, hz1, hz2⟩ := info_parts Try.info22p
  refine callsIn_of_wp_marks Try.func153 rfl trivial ?_ rfl
  simp only [Try.ntmps153, List.size_toArray, List.length_cons, List.length_nil, Nat.reduceAdd, Nat.reduceSub, Array.replicate_succ, Array.replicate_zero, List.push_toArray, List.append_toArray, List.nil_append, List.cons_append]
  gi_wp2
  have bO := Boxed.new w 24 (.slice none 0 0)
  have hB0 : Below w.heap.size w (w.alloc (.cells #[.slice none 0 0] 24)) := (Below.refl _ w).alloc (Nat.le_refl _) _
  refine wpIn_rangeFunc_ownG rfl h1 (gf := g) (lb := lb) rfl trivial eg
    (encs := fun x : Int => #[Value.int .u32 x]) (Kp := KeepsWalks) hseq walksK_t walksK_b hB0 (fun _ => rfl)
    (fun pre W => (∃ v, Boxed W w.heap.size 24 v ∧ W.ownsRow w.heap.size 22 1 v pre.length (pre.map (Value.int .u32)) ∧ (v = .slice none 0 0 ↔ pre = [])) ∧ Below w.heap.size w W)
    (fun _ _ _ => False)
    (OwnFrom.and (Own.from (holdsRow_own w.heap.size w.heap.size 24 22 1 (fun pre : List Int => pre.length) (fun pre => pre.map (Value.int .u32)) (fun pre v => v = .slice none 0 0 ↔ pre = [])) _) (ownFrom_below (Nat.le_refl _) (by simp)))
    (fun _ _ _ _ _ hs _ _ => hs)
    ⟨⟨_, bO, World.ownsRow_nil _ _ _ _, by simp⟩, hB0⟩
    (fun x => { tmps := #[.slice none 0 0, .func (.func g) #[] lb, .pointer (some ⟨w.heap.size, 0, none⟩), undef, .slice none 0 0, .int .u32 x, .func (.func g) #[] lb, .int .u32 x, undef, undef, undef, undef, undef], defers := [] }) ?assign ?body ?done ?stop
  case assign =>
    intro l x W K hK
    gi_wp2
    exact hK
  case body =>
    rintro l pre x W ⟨⟨v, hv, hrow, hnil⟩, hB⟩ hlt
    have hc := hv.cell
    gi_wp2_with (gi_at_builtin; refine wpListIn_append_own _ rfl _ _ 24 rfl w.heap.size 22 i0 (.int .u32 0) 1 4 Try.underlying24 hi hz0 hz1 hz2 rfl (by decide) _ _ _ rfl (hrow.alloc _) ⟨W.heap.size, 0, none⟩ 1 1 [.int .u32 x] rfl rfl (cell_one_new _ _ _) (by simp [Value.oneCell']) (by omega) (by omega) (by have := hB.size; simp; omega) ?_; intro v' w1 hown' hgrow _; obtain ⟨g', cap', rfl⟩ := ownsRow_succ hown'; obtain ⟨hv1, hv2, hr2, hk2, hb2⟩ := hv.appended (by decide) hrow hB.size (Nat.le_refl _) hown' hgrow; have hc1 := hv1.cell; have hf1 := hv1.frozen)
    exact ⟨hk2.from _, hk2.walks, ⟨_, hv2, by simpa using hr2, by simp⟩, hB.trans hb2⟩
  case done =>
    rintro D ys W hD hS ⟨⟨v, hv, hrow, hnil⟩, hB⟩ hK
    have hc := hv.cell
    gi_wp2
    refine ⟨by simp, .inl ⟨_, _, rfl, run_takeDeferred hK, ?_⟩⟩
    exact ⟨_, results_tmp rfl _ _ _, v, ys, rfl, hS, ownsRow_putObj hrow _ hK rfl, hnil, hB.trans (belowK_b (w := w) (Nat.le_refl _) W D _ _ (by simp at hD; omega) hK rfl rfl)⟩
  case stop =>
    rintro D c pre W _ _ h _
    exact h.elim

/-- Collected. -/
theorem Try.collect (n : Nat) (hn : 3 ≤ n) (g : Nat) (lb : Array Value) (eg : ∀ args w, (callFunc g args).run Try.prog w = .ok (.enter g args) w) (S Sp : List Int → Prop) (N : Nat) (hN : N ≤ maxLen) (hNb : N * 4 ≤ 140737488355328) (w : World)
    (hseq : SeqStops Fence.wide (n - 1 - 1) Try.prog g lb (Value.int .u32) S Sp N w) :
    CallsIn Fence.wide n Try.prog 108 #[.func (.func g) #[] lb] w fun e W' => ∃ (v : Value) (ss : List Int), e = .returned v ∧ S ss ∧ W'.ownsRow w.heap.size 22 1 v ss.length (ss.map (Value.int .u32)) ∧ (v = .slice none 0 0 ↔ ss = []) ∧ Below w.heap.size w W' := by
  have h1 : 1 ≤ n := by omega
  have hc := Try.appendSeq (n - 1) (by omega) g lb eg S Sp N hN hNb w hseq
  have hf : Fence.wide.fn 153 := trivial
  refine callsIn_of_wp Try.func108 rfl trivial ?_ rfl
  simp only [Try.ntmps108, List.size_toArray, List.length_cons, List.length_nil, Nat.reduceAdd, Nat.reduceSub, Array.replicate_succ, Array.replicate_zero, List.push_toArray, List.append_toArray, List.nil_append, List.cons_append]
  gi_wp2_with (gi_at_call 153; refine hc.mono ?_; rintro e w' ⟨v, ss, rfl, hS, hrow, hnil, hb⟩)
  go_ret
  exact ⟨v, ss, rfl, hS, hrow, hnil, hb⟩
end Go.Proofs.Ytlbfenfepmmihaa
